/- Parts Ref1, Ref1b, Ref3f, Keep0, Sxk, Ref3g, Ref3h, App, Ref3i, Ref3j, Strip, Ref3k, Law3, Zs, joined. -/
import Derived.Test.YtgilhcdglaneiaaM2
import Derived.WalkSmall
import Derived.ArgAppend

namespace Go.Proofs.Ytgilhcdglaneiaa
open Go.RowKit
theorem infoInt:(Try.prog.info? 3).map (fun i=>(i.zero,i.size,i.bytes))=some (some (.int .i64 0),1,8):=by kernel_rfl
abbrev I6 (x:Nat):Value:= .int .i64 (x:Int)
structure Ri (b:Nat) (w:World) (A:Option Addr) (n cap:Nat) (ds:List Nat):Prop where
 rv:Rv w 1 A n cap (ds.map I6)
 wf:Wfb b ds
theorem Ri.ext {b:Nat}{w w':World}{A:Option Addr}{n cap:Nat}{xs:List Nat}(h:Ri b w A n cap xs) (e:Ext w w'):Ri b w' A n cap xs:=⟨h.rv.ext e,h.wf⟩
theorem Ri.len {b:Nat}{w:World}{A:Option Addr}{n cap:Nat}{xs:List Nat}(h:Ri b w A n cap xs):xs.length=n:=by simpa using h.rv.len
theorem Ri.get {b:Nat}(hb:0<b){w:World}{A:Option Addr}{n cap:Nat}{xs:List Nat}(h:Ri b w A n cap xs){i:Nat}(hi:i<n):
  ∃a x,A=some a∧Hid (xs.getD i 0=x)∧x<b∧w.cell? (a.add i)=some (.int .i64 (x:Int)):=by
 obtain⟨a,ha,hc⟩:=h.rv.get i (by omega)
 have hl:i<xs.length:=by rw [h.len];exact hi
 refine⟨a,_,ha,rfl,Wfb_getD hb h.wf i,?_⟩
 rw [hc]
 simp [List.getD_eq_getElem?_getD,List.getElem?_map,List.getElem?_eq_getElem hl]
theorem Bk.digit {b:Nat}(hb:0<b){w:World}{g:Nat}{t:TypeId}{xs:List Nat}(h:Bk w g t (xs.map I6)) (hw:Wfb b xs){i:Nat}(hi:i<xs.length):
  ∃x,Hid (xs.getD i 0=x)∧x<b∧w.cell? ⟨g,i,none⟩=some (.int .i64 (x:Int)):=by
 refine⟨_,rfl,Wfb_getD hb hw i,?_⟩
 rw [h.cell (by simpa using hi)]
 simp [List.getD_eq_getElem?_getD,List.getElem?_map,List.getElem?_eq_getElem hi]
theorem Rv.take {w:World}{s:Nat}{A:Option Addr}{n cap:Nat}{vs:List Value}(h:Rv w s A n cap vs){k m:Nat}(hk:k≤n) (hm:k≤m) (hc:m≤cap):Rv w s A k m (vs.take (k*s)):=by
 have:=h.cut (l:=0) (Nat.zero_le _) hk hm hc
 simp only [Nat.sub_zero,Nat.zero_mul,List.drop_zero] at this
 have e:(if m=0 then A else A.map (·.add 0))=A:=by
  have h0:∀a:Addr,a.add 0=a:=fun a=>by simp [Addr.add]
  split
  ·rfl
  ·cases A <;> simp [h0]
 rwa [e] at this
theorem Own.take {w:World}{base:Nat}{t:TypeId}{s:Nat}{A:Option Addr}{n cap:Nat}{vs:List Value}(h:Own w base t s A n cap vs){k:Nat}(hk:k≤n):Own w base t s A k cap (vs.take (k*s)):=by
 rcases h with⟨rfl,rfl,rfl,rfl⟩ | ⟨g,cs,rfl,hb,hbk,hn,hm,hl,rfl⟩
 ·exact Or.inl ⟨rfl,by omega,rfl,by simp⟩
 ·refine Or.inr ⟨g,cs,rfl,hb,hbk,by omega,hm,hl,?_⟩
  rw [List.take_take,Nat.min_eq_left (Nat.mul_le_mul_right s hk)]
def RetI (w:World) (m:Nat) (e:Ending) (w':World):Prop:=
 ∃A n cap,e= .returned (.slice A n cap)∧Hid (n=(db 65536 m).length)∧Ri 65536 w' A n cap (db 65536 m)∧Own w' w.heap.size 3 1 A n cap ((db 65536 m).map I6)∧Ext w w'
theorem b16:2≤65536:=by decide
theorem WB_16:WB=65536^4:=by decide
def TrimP (A:Option Addr) (n cap:Nat) (m:Nat) (w:World) (e:Ending) (w':World):Prop:=
 ∃k:Nat,Hid (k=(db 65536 m).length)∧k≤n∧e= .returned (.slice A k cap)∧w=w'
theorem ref1_trim {w:World}{A:Option Addr}{n cap:Nat}{ds:List Nat}(hx:Ri 65536 w A n cap ds) (hl:n≤1099511627776):
  Calls Try.prog 100 #[.slice A n cap] w (TrimP A n cap (nb 65536 ds) w):=by
 have hlen:=Lib.hid hx.len
 have hcap:=hx.rv.le
 go_enter Try.func100,Try.ntmps100
 go_wp2_with fail
 go_loop [3] (fun u=>∃k:Nat,k≤n∧u= .int .i64 (k:Int)∧nb 65536 (ds.take k)=nb 65536 ds) (fun u=>(intOf u).toNat)
 case atStart=>exact⟨n,Nat.le_refl _,rfl,by rw [←hlen.out,List.take_length]⟩
 case round=>
  obtain⟨k,hk,rfl,hv⟩:=hrel
  have HV:=Lib.hid hv
  clear hv
  by_cases h0:0<k
  ·obtain⟨a,x,rfl,hxk,hxb,hc⟩:=hx.get (by omega) (i:=k-1) (by omega)
   by_cases hz:x=0
   ·subst hz
    go_wp2_with fail
    go_round
    case rel=>
     refine⟨k-1,by omega,by congr 1;omega,?_⟩
     rw [←HV.out,←nb_take_zero 65536 ds (k-1) (by rw [hlen.out];omega) hxk.out,Nat.sub_add_cancel h0]
    case measure=>simp [intOf];omega
   ·have hzb:((x:Int)==0)=false:=by simp;omega
    go_wp2_with fail
    go_ret
    refine⟨k,?_,hk,?_,rfl⟩
    ·have:=db_take b16 (k:=k) hx.wf (by rw [hlen.out];exact hk) HV.out (Or.inr (by rw [hxk.out];exact hz))
     show k=_
     rw [this,List.length_take,hlen.out];omega
    ·rfl
  ·go_wp2_with fail
   go_ret
   refine⟨k,?_,hk,?_,rfl⟩
   ·have:=db_take b16 (k:=k) hx.wf (by rw [hlen.out];exact hk) HV.out (Or.inl (by omega))
    show k=_
    rw [this,List.length_take,hlen.out];omega
   ·rfl
theorem split_step {ds:List Nat}{n x w:Nat}(hl:ds.length=n) (h:nb 65536 ds+65536^n*w=x):nb 65536 (ds++ [w%65536])+65536^(n+1)*(w/65536)=x:=by
 rw [nb_snoc,hl,Nat.pow_succ,Nat.mul_assoc,Nat.add_assoc,←Nat.mul_add,Nat.mod_add_div]
 exact h
theorem ref1_Split {w:World}{A:Option Addr}{n cap:Nat}{xs:List Nat}(hx:Rd w A n cap xs) (hl:n≤274877906943):
  Calls Try.prog 72 #[.slice A n cap] w (RetI w (nv xs)):=by
 have hlx:=Lib.hid hx.len
 have hmk:=run_make0 (P:=Try.prog) Try.underlying29 infoInt rfl (by decide) (4*(n:Int)) (by omega) (by omega)
 have et:(4*(n:Int)).toNat=4*n:=by omega
 rw [et] at hmk
 clear et
 go_enter Try.func72,Try.ntmps72
 go_wp2_with fail
 clear hmk
 obtain⟨g,hg⟩:∃g,w.heap.size=g:=⟨_,rfl⟩
 rw [hg]
 obtain⟨wa,hwa⟩:∃wa,w.alloc (.cells (zc (.int .i64 0) (4*n)) 3)=wa:=⟨_,rfl⟩
 rw [hwa]
 have hoa:Own wa w.heap.size 3 1 (some ⟨g,0,none⟩) 0 (4*n) (([]:List Nat).map I6):=by
  rw [←hwa,←hg]
  exact Own.mk_ (cs:=List.replicate (4*n) (.int .i64 0)) (Nat.le_refl _) (Bk.new' _ _ _) (by omega) (by rw [len_maxLen];omega) (by simp) (by simp)
 have hea:Ext w wa:=by rw [←hwa];exact (Ext.refl w).alloc _
 clear hg hwa
 go_loopw [4,3] (fun u v wr=>∃(i:Nat) (A':Option Addr) (c':Nat) (ds:List Nat),i≤n∧u= .int .i64 (i:Int)∧v= .slice A' (4*i) c'∧Own wr w.heap.size 3 1 A' (4*i) c' (ds.map I6)∧Wfb 65536 ds∧
  Hid (ds.length=4*i)∧Hid (nb 65536 ds=nv (xs.take i))∧Ext w wr) (fun u v wr=>n-(intOf u).toNat)
 case atStart=>exact⟨0,_,_,[],Nat.zero_le _,rfl,rfl,hoa,Wfb_nil _,rfl,rfl,hea⟩
 case round=>
  obtain⟨i,A',c',ds,hi,rfl,rfl,ho,hw,hdl,hv,hr⟩:=hrel
  clear hoa hea
  by_cases him:i<n
  ·obtain⟨a,x,rfl,hxk,hxb,hcx⟩:=(hx.ext hr).get (i:=i) (by omega)
   go_wp2_with fail
   obtain⟨wo,rfl⟩:∃wo:World,wo=wr:=⟨_,rfl⟩
   go_loopw [6,3,5] (fun u v y wr=>∃(k:Nat) (A':Option Addr) (c':Nat) (ds:List Nat) (q:Nat),k≤4∧u= .int .i64 (k:Int)∧v= .slice A' (4*i+k) c'∧y= .int .u64 (q:Int)∧q≤18446744073709551615∧Own wr w.heap.size 3 1 A' (4*i+k) c' (ds.map I6)∧Wfb 65536 ds∧
    Hid (ds.length=4*i+k)∧Hid (nb 65536 ds+65536^(4*i+k)*q=nv (xs.take (i+1)))∧Hid (q*65536^k<WB)∧Ext w wr) (fun u v y wr=>4-(intOf u).toNat)
   case atStart=>
    refine⟨0,_,_,ds,x,Nat.zero_le _,rfl,rfl,rfl,hxb,ho,hw,hdl,?_,?_,hr⟩
    ·show _=_
     rw [hv.out,nv_take_snoc xs i (by rw [hlx.out];omega),hxk.out,WB_16,←Nat.pow_mul];rfl
    ·show _<_
     rw [WB_def];omega
   case round=>
    obtain⟨k,A2,c2,es,q,hk,rfl,rfl,rfl,hqb,ho2,hw2,hel,hev,hq,hr2⟩:=hrel
    clear ho hw hdl hv
    by_cases hk4:k<4
    ·have r1:(4*i+k+1)*8≤140737488355328:=by omega
     go_wp2_with ((with_reducible refine at_slot (some 30) ?_);refine wpc_append rfl (.tmp 25) (.tmp 29) 29 rfl rfl rfl Try.underlying29 infoInt rfl (by decide) (ho2.ext ((Ext.refl _).alloc _)) (Rv.one _ _ _) (by simp [Value.oneCell']) r1 (by rw [len_maxLen];omega) (by have:=hr2.size;simp;omega) ?_;intro A3 c3 w3 ho3 hu3 _)
     have he3:Ext w w3:=hu3.ext (hr2.alloc _) (fun p hp=>(ho2.block p hp).1)
     go_roundw
     case rel=>
      refine⟨k+1,A3,c3,es++ [q%65536],q/65536,by omega,by go_num,rfl,by go_num,by omega,?_,Wfb_append hw2 (Wfb_one (by omega)),?_,split_step hel.out hev.out,?_,he3⟩
      ·have:(es++ [q%65536]).map I6=es.map I6++ [.int .i64 ((q:Int)%65536)]:=by simp
       rw [this];exact ho3
      ·show _=_
       rw [List.length_append,hel.out];rfl
      ·show _<_
       have h2:q/65536*65536≤q:=Nat.div_mul_le_self q 65536
       calc q/65536*65536^(k+1)=(q/65536*65536)*65536^k:=by rw [Nat.pow_succ,Nat.mul_comm (65536^k),Nat.mul_assoc]
        _≤q*65536^k:=Nat.mul_le_mul_right _ h2
        _<WB:=hq.out
     case measure=>simp [intOf];omega
    ·obtain rfl:k=4:=by omega
     have hq0:q=0:=by
      have h:=hq.out
      rw [WB_def] at h
      omega
     go_wp2_with fail
     go_roundw
     case rel=>
      refine⟨i+1,A2,c2,es,by omega,by go_num,rfl,ho2,hw2,hel.out,?_,hr2⟩
      show _=_
      have h:=hev.out
      rw [hq0,Nat.mul_zero,Nat.add_zero] at h
      exact h
     case measure=>simp [intOf];omega
  ·obtain rfl:i=n:=by omega
   have hri:Ri 65536 wr A' (4*i) c' ds:=⟨ho.rv,hw⟩
   go_wp2_with fail
   refine (ref1_trim hri (by omega)).mono ?_
   rintro e w' ⟨k,hk,hkn,rfl,rfl⟩
   go_wp2_with fail
   go_ret
   have e:nb 65536 ds=nv xs:=by rw [hv.out,←hlx.out,List.take_length]
   have e2:=db_take_len b16 hw hk.out
   rw [e] at e2
   have hot:=ho.take hkn
   rw [Nat.mul_one,←List.map_take,←e2] at hot
   refine⟨A',k,c',rfl,?_,⟨hot.rv,Wfb_db b16 _⟩,hot,hr⟩
   show _=_
   rw [hk.out,e]
theorem ref1_Join {w:World}{A:Option Addr}{n cap:Nat}{ds:List Nat}(hx:Ri 65536 w A n cap ds) (hl:n≤1099511627775):
  Calls Try.prog 73 #[.slice A n cap] w (RetW w (nb 65536 ds)):=by
 go_enter Try.func73,Try.ntmps73
 go_wp2_with fail
 refine (ref1_trim hx (by omega)).mono ?_
 rintro e w' ⟨k,hk,hkn,rfl,rfl⟩
 obtain⟨es,hes⟩:∃es,es=db 65536 (nb 65536 ds):=⟨_,rfl⟩
 have hes2:es=ds.take k:=by rw [hes];exact db_take_len b16 hx.wf hk.out
 have hlen:=Lib.hid hx.len
 have he:Ri 65536 w A k cap es:=by
  have h:=hx.rv.take (k:=k) (m:=cap) hkn (by have:=hx.rv.le;omega) (Nat.le_refl _)
  rw [Nat.mul_one,←List.map_take,←hes2] at h
  exact⟨h,by rw [hes2];exact Wfb_take hx.wf _⟩
 have hel:=Lib.hid he.len
 have hval:Hid (nb 65536 es=nb 65536 ds):=by show _=_;rw [hes,nb_db b16]
 have htop:Hid (k=0∨65536^(k-1)≤nb 65536 ds):=by
  by_cases h0:nb 65536 ds=0
  ·left
   have h:=hk.out
   rw [h0,db_zero] at h
   exact h
  ·right
   have:=pow_len_db_le b16 h0
   rwa [←hk.out] at this
 clear hes hes2 hk
 have hmk:=run_make0 (P:=Try.prog) Try.underlying22 info64 rfl (by decide) ((k:Int)/4+1) (by omega) (by omega)
 have et:((k:Int)/4+1).toNat=k/4+1:=by omega
 rw [et] at hmk
 clear et
 go_wp2_with fail
 clear hmk
 obtain⟨g,hg⟩:∃g,w.heap.size=g:=⟨_,rfl⟩
 rw [hg]
 obtain⟨wa,hwa⟩:∃wa,w.alloc (.cells (zc (.int .u64 0) (k/4+1)) 24)=wa:=⟨_,rfl⟩
 rw [hwa]
 have hoa:Own wa w.heap.size 24 1 (some ⟨g,0,none⟩) 0 (k/4+1) (([]:List Nat).map W64):=by
  rw [←hwa,←hg]
  exact Own.mk_ (cs:=List.replicate (k/4+1) (.int .u64 0)) (Nat.le_refl _) (Bk.new' _ _ _) (by omega) (by rw [len_maxLen];omega) (by simp) (by simp)
 have hea:Ext w wa:=by rw [←hwa];exact (Ext.refl w).alloc _
 clear hg hwa
 go_loopw [4,3] (fun u v wr=>∃(i:Nat) (A':Option Addr) (c':Nat) (ws:List Nat),4*i≤k+3∧u= .int .i64 (4*(i:Int))∧v= .slice A' i c'∧Own wr w.heap.size 24 1 A' i c' (ws.map W64)∧Wf ws∧
  Hid (ws.length=i)∧Hid (nv ws=nb 65536 (es.take (4*i)))∧Ext w wr) (fun u v wr=>k+4-(intOf u).toNat)
 case atStart=>exact⟨0,_,_,[],by omega,rfl,rfl,hoa,Wf_nil,rfl,rfl,hea⟩
 case round=>
  obtain⟨i,A',c',ws,hi,rfl,rfl,ho,hw,hwl,hv,hr⟩:=hrel
  clear hoa hea
  by_cases him:4*i<k
  ·go_wp2_with fail
   obtain⟨wo,rfl⟩:∃wo:World,wo=wr:=⟨_,rfl⟩
   go_loop [6,5] (fun u v=>∃(j q:Nat),j≤4∧u= .int .i64 ((j:Int)-1)∧v= .int .u64 (q:Int)∧Hid (q=nb 65536 ((es.drop (4*i+j)).take (4-j)))) (fun u v=>(intOf u+1).toNat)
   case atStart=>exact⟨4,0,Nat.le_refl _,rfl,rfl,by simp [Hid,nb]⟩
   case round=>
    obtain⟨j,q,hj,rfl,rfl,hq⟩:=hrel
    have hqlt:q<65536^(4-j):=by
     rw [hq.out]
     have h1:=nb_lt (Wfb_take (Wfb_drop he.wf (4*i+j)) (4-j))
     have h2:65536^(List.take (4-j) (List.drop (4*i+j) es)).length≤65536^(4-j):=Nat.pow_le_pow_right (by omega) (by rw [List.length_take];omega)
     omega
    by_cases hj0:0<j
    ·have hqb:q≤281474976710655:=by
      have:(65536:Nat)^(4-j)≤65536^3:=Nat.pow_le_pow_right (by omega) (by omega)
      omega
     clear hqlt
     have hstep:Hid (es.getD (4*i+(j-1)) 0+65536*q=nb 65536 ((es.drop (4*i+(j-1))).take (4-(j-1)))):=by
      show _=_
      have e2:4-(j-1)=(4-j)+1:=by omega
      have e3:4*i+(j-1)+1=4*i+j:=by omega
      rw [e2,nb_drop_take,e3,hq.out]
     by_cases hin:4*i+(j-1)<k
     ·obtain⟨a,x,rfl,hxk,hxb,hcx⟩:=(he.ext hr).get (by omega) (i:=4*i+(j-1)) (by omega)
      have hin':4*(i:Int)+((j:Int)-1)<(k:Int):=by omega
      go_wp2_with fail
      go_round
      case rel=>exact⟨j-1,x+65536*q,by omega,val_int (by omega),val_int (by omega),by show _=_;rw [←hstep.out,hxk.out]⟩
      case measure=>simp [intOf];omega
     ·have hin':¬4*(i:Int)+((j:Int)-1)<(k:Int):=by omega
      go_wp2_with fail
      go_round
      case rel=>exact⟨j-1,65536*q,by omega,val_int (by omega),val_int (by omega),by show _=_;rw [←hstep.out,List.getD_eq_getElem?_getD,List.getElem?_eq_none (by rw [hel.out];omega)];simp⟩
      case measure=>simp [intOf];omega
    ·obtain rfl:j=0:=by omega
     have hqW:q<WB:=by rw [WB_16];exact hqlt
     clear hqlt
     have r1:(i+1)*8≤140737488355328:=by omega
     go_wp2_with ((with_reducible refine at_slot (some 44) ?_);refine wpc_append rfl (.tmp 41) (.tmp 43) 22 rfl rfl rfl Try.underlying22 info64 rfl (by decide) (ho.ext ((Ext.refl _).alloc _)) (Rv.one _ _ _) (by simp [Value.oneCell']) r1 (by rw [len_maxLen];omega) (by have:=hr.size;simp;omega) ?_;intro A3 c3 w3 ho3 hu3 _)
     have he3:Ext w w3:=hu3.ext (hr.alloc _) (fun p hp=>(ho.block p hp).1)
     go_roundw
     case rel=>
      refine⟨i+1,A3,c3,ws++ [q],by omega,val_int (by omega),rfl,?_,Wf_append hw (Wf_one hqW),?_,?_,he3⟩
      ·have:(ws++ [q]).map W64=ws.map W64++ [.int .u64 (q:Int)]:=by simp
       rw [this];exact ho3
      ·show _=_
       rw [List.length_append,hwl.out];rfl
      ·show _=_
       rw [nv_snoc,hwl.out,hv.out,show 4*(i+1)=4*i+4 from by omega,nb_take_add 65536 es (4*i) 4 (by rw [hel.out];omega),hq.out,WB_16,←Nat.pow_mul]
       rfl
     case measure=>simp [intOf];omega
  ·go_wp2_with fail
   go_ret
   have e1:nv ws=nb 65536 ds:=by rw [hv.out,List.take_of_length_le (by rw [hel.out];omega),hval.out]
   have e2:wd (nv ws)=ws:=by
    refine wd_of_ge hw ?_
    rw [hwl.out,e1]
    by_cases h0:i=0
    ·exact Or.inl h0
    ·refine Or.inr ?_
     rcases htop.out with h | h
     ·omega
     ·refine Nat.le_trans ?_ h
      rw [WB_16,←Nat.pow_mul]
      exact Nat.pow_le_pow_right (by omega) (by omega)
   rw [←e1]
   rw [←e2] at ho
   refine⟨A',i,c',rfl,?_,ho.rd (by rw [e2];exact hw),ho,hr⟩
   show _=_
   rw [e2,hwl.out]
theorem len_db16_nv {xs:List Nat}(hw:Wf xs):(db 65536 (nv xs)).length≤4*xs.length:=by
 refine len_db_le b16 ?_
 have:=nv_lt hw
 rwa [WB_16,←Nat.pow_mul] at this
theorem ref1_Least {w:World}{A:Option Addr}{n cap:Nat}{xs:List Nat}(hx:Rd w A n cap xs) (hl:n≤274877906943):
  Calls Try.prog 39 #[.slice A n cap] w (RetW w (nv xs)):=by
 go_enter Try.func39,Try.ntmps39
 go_wp2_with fail
 refine (ref1_Split hx hl).mono ?_
 rintro e w1 ⟨A1,n1,c1,rfl,hn1,hr1,_,hx1⟩
 have hb:n1≤1099511627775:=by have:=len_db16_nv hx.wf;rw [hn1.out];rw [hx.len] at this;omega
 go_wp2_with fail
 refine (ref1_Join hr1 hb).mono ?_
 rintro e w2 ⟨A2,n2,c2,rfl,hn2,hr2,ho2,hx2⟩
 go_wp2_with fail
 go_ret
 rw [nb_db b16] at hn2 hr2 ho2
 exact⟨A2,n2,c2,rfl,hn2,hr2,ho2.mono hx1.size,hx1.trans hx2⟩
theorem bl_lt {n j:Nat}{xs es:List Nat}(hx:xs.length=n) (he:es.length=n) (hwx:Wfb 4294967296 xs) (hwe:Wfb 4294967296 es) (hj:j<n) (h:nb 4294967296 (xs.drop (j+1))=nb 4294967296 (es.drop (j+1))) (hd:xs.getD j 0<es.getD j 0):nb 4294967296 xs<nb 4294967296 es:=by
 have:=goes_lt (s:=0) hx he (by omega) hwx hwe hj (by rw [Nat.zero_add];exact h) (by rw [Nat.zero_add];exact hd)
 rw [Nat.pow_zero,Nat.mul_one] at this
 omega
theorem bl_gt {n j:Nat}{xs es:List Nat}(hx:xs.length=n) (he:es.length=n) (hwx:Wfb 4294967296 xs) (hwe:Wfb 4294967296 es) (hj:j<n) (h:nb 4294967296 (xs.drop (j+1))=nb 4294967296 (es.drop (j+1))) (hd:¬xs.getD j 0<es.getD j 0) (hne:xs.getD j 0≠es.getD j 0):¬nb 4294967296 xs<nb 4294967296 es:=by
 have:=goes_gt (s:=0) hx he (by omega) hwx hwe hj (by rw [Nat.zero_add];exact h) (by rw [Nat.zero_add];omega)
 rw [Nat.pow_zero,Nat.mul_one] at this
 omega
theorem bl_step {n j:Nat}{xs es:List Nat}(hx:xs.length=n) (he:es.length=n) (hj:j<n) (h:nb 4294967296 (xs.drop (j+1))=nb 4294967296 (es.drop (j+1))) (hd:xs.getD j 0=es.getD j 0):nb 4294967296 (xs.drop j)=nb 4294967296 (es.drop j):=by
 rw [drop_getD3 (xs:=xs) (k:=j) (by omega),drop_getD3 (xs:=es) (k:=j) (by omega),h,hd]
theorem bl_len {X Y:Nat}(h:(db 4294967296 X).length<(db 4294967296 Y).length):X<Y:=by
 refine Nat.lt_of_not_le fun e=>?_
 have:=len_db_mono b32 e
 omega
theorem blen_half3 {q:Nat}(h:q≠0):blen q=blen (q/2)+1:=by
 refine blen_unique ?_ (Or.inr ?_)
 ·have:=lt_blen (q/2)
  rw [Nat.pow_succ];omega
 ·rw [Nat.add_sub_cancel]
  by_cases h0:q/2=0
  ·rw [h0,blen_zero];omega
  ·have h1:=blen_le_self h0
   have h2:blen (q/2)≠0:=fun e=>h0 (blen_eq_zero.1 e)
   have h3:2^blen (q/2)=2*2^(blen (q/2)-1):=by
    conv=>lhs;rw [show blen (q/2)=(blen (q/2)-1)+1 from by omega]
    rw [Nat.pow_succ,Nat.mul_comm]
   omega
theorem blen_db3 {b k : Nat} (hb : 2 ≤ b) (hbk : b = 2 ^ k) {v m x : Nat} (hm : m = (db b v).length) (h0 : 0 < m) (hx : (db b v).getD (m - 1) 0 = x) : x ≠ 0 ∧ k * (m - 1) + blen x = blen v := by
  have hw := Wfb_db hb v
  have ht := db_top hb v
  rw [← hm, hx] at ht
  have hx0 : x ≠ 0 := by rcases ht with h | h
                         · omega
                         · exact h
  have e2 : v = nb b ((db b v).take (m - 1)) + b ^ (m - 1) * x := by
    have := nb_take_snoc b (db b v) (m - 1) (by omega)
    rw [Nat.sub_add_cancel h0, List.take_of_length_le (by omega), nb_db hb, hx] at this
    exact this
  have hlt := nb_take_lt (by omega) hw (m - 1)
  generalize nb b ((db b v).take (m - 1)) = lo at *
  refine ⟨hx0, (blen_unique ?_ (Or.inr ?_)).symm⟩
  · have h1 := lt_blen x
    rw [Nat.pow_add, Nat.pow_mul, ← hbk]
    have h2 : b ^ (m - 1) * x + b ^ (m - 1) ≤ b ^ (m - 1) * 2 ^ blen x := by
      have := Nat.mul_le_mul_left (b ^ (m - 1)) (Nat.succ_le_of_lt h1)
      rwa [Nat.mul_succ] at this
    omega
  · have h1 := blen_le_self hx0
    have hb' : blen x ≠ 0 := fun h => hx0 (blen_eq_zero.1 h)
    rw [Nat.add_sub_assoc (by omega), Nat.pow_add, Nat.pow_mul, ← hbk]
    have := Nat.mul_le_mul_left (b ^ (m - 1)) h1
    omega
set_option maxHeartbeats 4000000 in
theorem ref3_below {w:World}{A D:Option Addr}{n cap m cd X Y:Nat}(hx:Rd w A n cap (db 4294967296 X)) (hln:n≤274877906944) (hy:Rd w D m cd (db 4294967296 Y)) (hlm:m≤274877906944):
    Calls Try.prog 90 #[.slice A n cap,.slice D m cd] w (Gv w (Is (.bool (decide (X<Y))))):=by
 have hlen:=hx.len
 have hle2:=hy.len
 have hwx:=Wfb_db b32 X
 have hwe:=Wfb_db b32 Y
 refine sx_enter Try.func90 rfl (n:=41) rfl (bq rfl) (args:= [.slice A n cap,.slice D m cd]) (cw_keep [(0,.slice A n cap),(1,.slice D m cd)] ⟨rfl,rfl,trivial⟩ (sr (mv 1 rfl (ne_ (cw_seq (cw_seq ?_))))))
 by_cases hne:n≠m
 · 
  by_cases hnm:n<m
  · 
   refine cw_region (mv 1 rfl (pu (v:= .int .i64 ((n:Nat):Int)) rfl (by kernel_rfl) (mv 1 rfl (pu (v:= .int .i64 ((m:Nat):Int)) rfl (by kernel_rfl) (wl_cmp rfl rfl rfl true (cb_ne_t (a:=n) (b:=m) rfl rfl (by omega)) (by decide) (ne_ (cw_true rfl (sr (mv 1 rfl (pu (v:= .int .i64 ((n:Nat):Int)) rfl (by kernel_rfl) (mv 1 rfl (pu (v:= .int .i64 ((m:Nat):Int)) rfl (by kernel_rfl) (wl_cmp rfl rfl rfl true (cb_lt_t (a:=n) (b:=m) rfl rfl (by omega)) (by decide) ?_)))))))))))))
   refine mv 1 rfl (ne_ (cw_ret (eo_thenR (eo_ret [.bool true] rfl ⟨rfl,trivial⟩ ?_))))
   have hR:X<Y:=bl_len (by omega)
   exact⟨_,rfl,(by rw [decide_eq_true hR];rfl),(Ext.refl w)⟩
  · 
   refine cw_region (mv 1 rfl (pu (v:= .int .i64 ((n:Nat):Int)) rfl (by kernel_rfl) (mv 1 rfl (pu (v:= .int .i64 ((m:Nat):Int)) rfl (by kernel_rfl) (wl_cmp rfl rfl rfl true (cb_ne_t (a:=n) (b:=m) rfl rfl (by omega)) (by decide) (ne_ (cw_true rfl (sr (mv 1 rfl (pu (v:= .int .i64 ((n:Nat):Int)) rfl (by kernel_rfl) (mv 1 rfl (pu (v:= .int .i64 ((m:Nat):Int)) rfl (by kernel_rfl) (wl_cmp rfl rfl rfl false (cb_lt_f (a:=n) (b:=m) rfl rfl (by omega)) (by decide) ?_)))))))))))))
   refine mv 1 rfl (ne_ (cw_ret (eo_thenR (eo_ret [F0] rfl ⟨rfl,trivial⟩ ?_))))
   have hR:¬X<Y:=fun e=>by have:=len_db_mono b32 (Nat.le_of_lt e);omega
   exact⟨_,rfl,(by rw [decide_eq_false hR];rfl),(Ext.refl w)⟩
 · 
  obtain rfl:n=m:=by omega
  refine cw_region (mv 1 rfl (pu (v:= .int .i64 ((n:Nat):Int)) rfl (by kernel_rfl) (mv 1 rfl (pu (v:= .int .i64 ((n:Nat):Int)) rfl (by kernel_rfl) (wl_cmp rfl rfl rfl false (cb_ne_f (a:=n) (b:=n) rfl rfl (by omega)) (by decide) (ne_ (cw_false rfl (cw_skip (eo_then (cw_seq (sr (mv 1 rfl (pu (v:= .int .i64 ((n:Nat):Int)) rfl (by kernel_rfl) ?_)))))))))))))
  refine wl_ar rfl rfl rfl (((n:Nat):Int)-1) (ar_i64s rfl (by omega) (by omega)) (by decide) (mv 1 rfl (ne_ (cw_block ?_)))
  refine cw_loop (T:=World×Nat×Int)
   (fun⟨wr,k,ii⟩=> [(0,.slice A n cap),(1,.slice D n cd),(5,.int .i64 ii)])
   (fun⟨wr,k,ii⟩=>wr)
   (fun⟨wr,k,ii⟩=>(Ext w wr)∧(k≤n)∧(ii=(k:Int)-1)∧(nb 4294967296 ((db 4294967296 X).drop k)=nb 4294967296 ((db 4294967296 Y).drop k))∧(Rd wr A n cap (db 4294967296 (X)))∧(Rd wr D n cd (db 4294967296 (Y))))
   (fun⟨wr,k,ii⟩=>k)
   (⟨w,n,_⟩:World×Nat×Int) ⟨(Ext.refl w),Nat.le_refl _,rfl,(by rw [List.drop_of_length_le (by omega),List.drop_of_length_le (by omega)]),hx,hy⟩ rfl ⟨rfl,rfl,rfl,trivial⟩ ?_
  rintro⟨wr,k,ii⟩ ⟨hw1,hk,hii,hv,rl0,rl1⟩
  refine cw_re [(0,.slice A n cap),(1,.slice D n cd),(5,.int .i64 ii)] wr rfl ⟨rfl,rfl,rfl,trivial⟩ (cw_seq (cw_seq ?_))
  by_cases hk0:0<k
  · 
   obtain⟨j,rfl⟩:∃j,k=j+1:=⟨k-1,by omega⟩
   obtain rfl:ii=(j:Int):=by omega
   refine cw_region (mv 1 rfl (wl_cmp rfl rfl rfl true (cb_ge_t (a:=j) (b:=0) rfl rfl (by omega)) (by decide) (ne_ (cw_true rfl (cw_skip (eo_then (cw_seq (cw_block (cw_seq ?_)))))))))
   by_cases hdd:(db 4294967296 (X)).getD j 0≠(db 4294967296 (Y)).getD j 0
   · 
    by_cases hlt:(db 4294967296 (X)).getD j 0<(db 4294967296 (Y)).getD j 0
    · 
     refine cw_keep [(0,.slice A n cap),(1,.slice D n cd),(5,.int .i64 ((j:Nat):Int)),(19,.int .i64 ((j:Nat):Int)),(20,.bool true)] ⟨rfl,rfl,rfl,rfl,rfl,trivial⟩ ?_
     obtain⟨v1,hv,e2⟩:∃v,v=wr.drew∧Ext wr v:=⟨_,rfl,(Ext.refl _).drew⟩
     have hw2:=hw1.trans e2
     obtain⟨p3,hp3,hc3,hv3⟩:=((rl0.ext e2)).at (i:=j) (by omega)
     obtain⟨p4,hp4,hc4,hv4⟩:=((rl1.ext e2)).at (i:=j) (by omega)
     refine cw_det mix (w:=v1) [.slice A n cap,.int .i64 ((j:Nat):Int),.pointer (some p3),.int .u64 (((db 4294967296 (X)).getD j 0:Nat):Int),.slice D n cd,.int .i64 ((j:Nat):Int),.pointer (some p4),.int .u64 (((db 4294967296 (Y)).getD j 0:Nat):Int),.bool true] [v1] [] [[],[],[0,1],[2],[],[],[4,5],[6],[3,7]] [[],[],[0,1],[0,1,2],[],[],[4,5],[4,5,6],[0,1,2,3,4,5,6,7]] [(0,0),(1,0),(2,0),(3,0),(4,0),(5,0),(6,0),(7,0),(8,0)] rfl hv ?_ ?_
     · 
      refine dobs_val _ rfl rfl rfl rfl rfl (rd_move rfl) (dobs_val _ rfl rfl rfl rfl rfl (rd_move rfl) (dobs_val _ rfl rfl rfl rfl rfl (rd_idx rfl rfl un_u64 sz_u64 j rfl (by omega) p3 hp3) (dobs_val _ rfl rfl rfl rfl rfl (rd_load rfl (load_cell1 ag_u64 hc3)) (dobs_val _ rfl rfl rfl rfl rfl (rd_move rfl) (dobs_val _ rfl rfl rfl rfl rfl (rd_move rfl) (dobs_val _ rfl rfl rfl rfl rfl (rd_idx rfl rfl un_u64 sz_u64 j rfl (by omega) p4 hp4) (dobs_val _ rfl rfl rfl rfl rfl (rd_load rfl (load_cell1 ag_u64 hc4)) (dobs_val _ rfl rfl rfl rfl rfl (rd_cmp rfl rfl true (cb_ne_t (a:=(db 4294967296 (X)).getD j 0) (b:=(db 4294967296 (Y)).getD j 0) rfl rfl (by omega))) ?_))))))))
      exact dobs_nil
     clear hv
     refine eo_keep [(0,.slice A n cap),(1,.slice D n cd),(5,.int .i64 ((j:Nat):Int)),(19,.int .i64 ((j:Nat):Int)),(20,.bool true),(23,.slice A n cap),(24,.int .i64 ((j:Nat):Int)),(25,.pointer (some p3)),(26,.int .u64 (((db 4294967296 (X)).getD j 0:Nat):Int)),(27,.slice D n cd),(28,.int .i64 ((j:Nat):Int)),(29,.pointer (some p4)),(30,.int .u64 (((db 4294967296 (Y)).getD j 0:Nat):Int)),(31,.bool true)] ⟨rfl,rfl,rfl,rfl,rfl,rfl,rfl,rfl,rfl,rfl,rfl,rfl,rfl,rfl,trivial⟩ (eo_then (cw_true rfl (cw_seq (cw_keep [(0,.slice A n cap),(1,.slice D n cd),(5,.int .i64 ((j:Nat):Int)),(19,.int .i64 ((j:Nat):Int)),(20,.bool true),(23,.slice A n cap),(24,.int .i64 ((j:Nat):Int)),(25,.pointer (some p3)),(26,.int .u64 (((db 4294967296 (X)).getD j 0:Nat):Int)),(27,.slice D n cd),(28,.int .i64 ((j:Nat):Int)),(29,.pointer (some p4)),(30,.int .u64 (((db 4294967296 (Y)).getD j 0:Nat):Int)),(31,.bool true)] ⟨rfl,rfl,rfl,rfl,rfl,rfl,rfl,rfl,rfl,rfl,rfl,rfl,rfl,rfl,trivial⟩ ?_))))
     obtain⟨v5,hv,e6⟩:∃v,v=v1.drew∧Ext v1 v:=⟨_,rfl,(Ext.refl _).drew⟩
     have hw3:=hw2.trans e6
     refine cw_det mix (w:=v5) [.slice A n cap,.int .i64 ((j:Nat):Int),.pointer (some p3),.int .u64 (((db 4294967296 (X)).getD j 0:Nat):Int),.slice D n cd,.int .i64 ((j:Nat):Int),.pointer (some p4),.int .u64 (((db 4294967296 (Y)).getD j 0:Nat):Int),.bool true,.bool true] [v5] [] [[],[],[0,1],[2],[],[],[4,5],[6],[3,7],[8]] [[],[],[0,1],[0,1,2],[],[],[4,5],[4,5,6],[0,1,2,3,4,5,6,7],[0,1,2,3,4,5,6,7,8]] [(0,0),(1,0),(2,0),(3,0),(4,0),(5,0),(6,0),(7,0),(8,0),(9,0)] rfl hv ?_ ?_
     · 
      refine dobs_val _ rfl rfl rfl rfl rfl (rd_move rfl) (dobs_val _ rfl rfl rfl rfl rfl (rd_move rfl) (dobs_val _ rfl rfl rfl rfl rfl (rd_idx rfl rfl un_u64 sz_u64 j rfl (by omega) p3 hp3) (dobs_val _ rfl rfl rfl rfl rfl (rd_load rfl (load_cell1 ag_u64 (e6.cell hc3))) (dobs_val _ rfl rfl rfl rfl rfl (rd_move rfl) (dobs_val _ rfl rfl rfl rfl rfl (rd_move rfl) (dobs_val _ rfl rfl rfl rfl rfl (rd_idx rfl rfl un_u64 sz_u64 j rfl (by omega) p4 hp4) (dobs_val _ rfl rfl rfl rfl rfl (rd_load rfl (load_cell1 ag_u64 (e6.cell hc4))) (dobs_val _ rfl rfl rfl rfl rfl (rd_cmp rfl rfl true (cb_lt_t (a:=(db 4294967296 (X)).getD j 0) (b:=(db 4294967296 (Y)).getD j 0) rfl rfl (by omega))) (dobs_val _ rfl rfl rfl rfl rfl (rd_assign rfl) ?_)))))))))
      exact dobs_nil
     clear hv
     refine eo_keep [(0,.slice A n cap),(1,.slice D n cd),(5,.int .i64 ((j:Nat):Int)),(19,.int .i64 ((j:Nat):Int)),(20,.bool true),(23,.slice A n cap),(24,.int .i64 ((j:Nat):Int)),(25,.pointer (some p3)),(26,.int .u64 (((db 4294967296 (X)).getD j 0:Nat):Int)),(27,.slice D n cd),(28,.int .i64 ((j:Nat):Int)),(29,.pointer (some p4)),(30,.int .u64 (((db 4294967296 (Y)).getD j 0:Nat):Int)),(31,.bool true),(32,.slice A n cap),(33,.int .i64 ((j:Nat):Int)),(34,.pointer (some p3)),(35,.int .u64 (((db 4294967296 (X)).getD j 0:Nat):Int)),(36,.slice D n cd),(37,.int .i64 ((j:Nat):Int)),(38,.pointer (some p4)),(39,.int .u64 (((db 4294967296 (Y)).getD j 0:Nat):Int)),(40,.bool true),(4,.bool true)] ⟨rfl,rfl,rfl,rfl,rfl,rfl,rfl,rfl,rfl,rfl,rfl,rfl,rfl,rfl,rfl,rfl,rfl,rfl,rfl,rfl,rfl,rfl,rfl,rfl,trivial⟩ (eo_then (cw_ret (eo_block_ret (eo_thenR (eo_loopR (eo_block_ret (eo_thenR (eo_ret [.bool true] rfl ⟨rfl,trivial⟩ ?_))))))))
     have hR:X<Y:=bl_lt hlen hle2 hwx hwe (by omega) hv hlt |> fun h=>by rwa [nb_db b32,nb_db b32] at h
     exact⟨_,rfl,(by rw [decide_eq_true hR];rfl),hw3⟩
    · 
     refine cw_keep [(0,.slice A n cap),(1,.slice D n cd),(5,.int .i64 ((j:Nat):Int)),(19,.int .i64 ((j:Nat):Int)),(20,.bool true)] ⟨rfl,rfl,rfl,rfl,rfl,trivial⟩ ?_
     obtain⟨v7,hv,e8⟩:∃v,v=wr.drew∧Ext wr v:=⟨_,rfl,(Ext.refl _).drew⟩
     have hw2:=hw1.trans e8
     obtain⟨p9,hp9,hc9,hv9⟩:=((rl0.ext e8)).at (i:=j) (by omega)
     obtain⟨p10,hp10,hc10,hv10⟩:=((rl1.ext e8)).at (i:=j) (by omega)
     refine cw_det mix (w:=v7) [.slice A n cap,.int .i64 ((j:Nat):Int),.pointer (some p9),.int .u64 (((db 4294967296 (X)).getD j 0:Nat):Int),.slice D n cd,.int .i64 ((j:Nat):Int),.pointer (some p10),.int .u64 (((db 4294967296 (Y)).getD j 0:Nat):Int),.bool true] [v7] [] [[],[],[0,1],[2],[],[],[4,5],[6],[3,7]] [[],[],[0,1],[0,1,2],[],[],[4,5],[4,5,6],[0,1,2,3,4,5,6,7]] [(0,0),(1,0),(2,0),(3,0),(4,0),(5,0),(6,0),(7,0),(8,0)] rfl hv ?_ ?_
     · 
      refine dobs_val _ rfl rfl rfl rfl rfl (rd_move rfl) (dobs_val _ rfl rfl rfl rfl rfl (rd_move rfl) (dobs_val _ rfl rfl rfl rfl rfl (rd_idx rfl rfl un_u64 sz_u64 j rfl (by omega) p9 hp9) (dobs_val _ rfl rfl rfl rfl rfl (rd_load rfl (load_cell1 ag_u64 hc9)) (dobs_val _ rfl rfl rfl rfl rfl (rd_move rfl) (dobs_val _ rfl rfl rfl rfl rfl (rd_move rfl) (dobs_val _ rfl rfl rfl rfl rfl (rd_idx rfl rfl un_u64 sz_u64 j rfl (by omega) p10 hp10) (dobs_val _ rfl rfl rfl rfl rfl (rd_load rfl (load_cell1 ag_u64 hc10)) (dobs_val _ rfl rfl rfl rfl rfl (rd_cmp rfl rfl true (cb_ne_t (a:=(db 4294967296 (X)).getD j 0) (b:=(db 4294967296 (Y)).getD j 0) rfl rfl (by omega))) ?_))))))))
      exact dobs_nil
     clear hv
     refine eo_keep [(0,.slice A n cap),(1,.slice D n cd),(5,.int .i64 ((j:Nat):Int)),(19,.int .i64 ((j:Nat):Int)),(20,.bool true),(23,.slice A n cap),(24,.int .i64 ((j:Nat):Int)),(25,.pointer (some p9)),(26,.int .u64 (((db 4294967296 (X)).getD j 0:Nat):Int)),(27,.slice D n cd),(28,.int .i64 ((j:Nat):Int)),(29,.pointer (some p10)),(30,.int .u64 (((db 4294967296 (Y)).getD j 0:Nat):Int)),(31,.bool true)] ⟨rfl,rfl,rfl,rfl,rfl,rfl,rfl,rfl,rfl,rfl,rfl,rfl,rfl,rfl,trivial⟩ (eo_then (cw_true rfl (cw_seq (cw_keep [(0,.slice A n cap),(1,.slice D n cd),(5,.int .i64 ((j:Nat):Int)),(19,.int .i64 ((j:Nat):Int)),(20,.bool true),(23,.slice A n cap),(24,.int .i64 ((j:Nat):Int)),(25,.pointer (some p9)),(26,.int .u64 (((db 4294967296 (X)).getD j 0:Nat):Int)),(27,.slice D n cd),(28,.int .i64 ((j:Nat):Int)),(29,.pointer (some p10)),(30,.int .u64 (((db 4294967296 (Y)).getD j 0:Nat):Int)),(31,.bool true)] ⟨rfl,rfl,rfl,rfl,rfl,rfl,rfl,rfl,rfl,rfl,rfl,rfl,rfl,rfl,trivial⟩ ?_))))
     obtain⟨v11,hv,e12⟩:∃v,v=v7.drew∧Ext v7 v:=⟨_,rfl,(Ext.refl _).drew⟩
     have hw3:=hw2.trans e12
     refine cw_det mix (w:=v11) [.slice A n cap,.int .i64 ((j:Nat):Int),.pointer (some p9),.int .u64 (((db 4294967296 (X)).getD j 0:Nat):Int),.slice D n cd,.int .i64 ((j:Nat):Int),.pointer (some p10),.int .u64 (((db 4294967296 (Y)).getD j 0:Nat):Int),F0,F0] [v11] [] [[],[],[0,1],[2],[],[],[4,5],[6],[3,7],[8]] [[],[],[0,1],[0,1,2],[],[],[4,5],[4,5,6],[0,1,2,3,4,5,6,7],[0,1,2,3,4,5,6,7,8]] [(0,0),(1,0),(2,0),(3,0),(4,0),(5,0),(6,0),(7,0),(8,0),(9,0)] rfl hv ?_ ?_
     · 
      refine dobs_val _ rfl rfl rfl rfl rfl (rd_move rfl) (dobs_val _ rfl rfl rfl rfl rfl (rd_move rfl) (dobs_val _ rfl rfl rfl rfl rfl (rd_idx rfl rfl un_u64 sz_u64 j rfl (by omega) p9 hp9) (dobs_val _ rfl rfl rfl rfl rfl (rd_load rfl (load_cell1 ag_u64 (e12.cell hc9))) (dobs_val _ rfl rfl rfl rfl rfl (rd_move rfl) (dobs_val _ rfl rfl rfl rfl rfl (rd_move rfl) (dobs_val _ rfl rfl rfl rfl rfl (rd_idx rfl rfl un_u64 sz_u64 j rfl (by omega) p10 hp10) (dobs_val _ rfl rfl rfl rfl rfl (rd_load rfl (load_cell1 ag_u64 (e12.cell hc10))) (dobs_val _ rfl rfl rfl rfl rfl (rd_cmp rfl rfl false (cb_lt_f (a:=(db 4294967296 (X)).getD j 0) (b:=(db 4294967296 (Y)).getD j 0) rfl rfl (by omega))) (dobs_val _ rfl rfl rfl rfl rfl (rd_assign rfl) ?_)))))))))
      exact dobs_nil
     clear hv
     refine eo_keep [(0,.slice A n cap),(1,.slice D n cd),(5,.int .i64 ((j:Nat):Int)),(19,.int .i64 ((j:Nat):Int)),(20,.bool true),(23,.slice A n cap),(24,.int .i64 ((j:Nat):Int)),(25,.pointer (some p9)),(26,.int .u64 (((db 4294967296 (X)).getD j 0:Nat):Int)),(27,.slice D n cd),(28,.int .i64 ((j:Nat):Int)),(29,.pointer (some p10)),(30,.int .u64 (((db 4294967296 (Y)).getD j 0:Nat):Int)),(31,.bool true),(32,.slice A n cap),(33,.int .i64 ((j:Nat):Int)),(34,.pointer (some p9)),(35,.int .u64 (((db 4294967296 (X)).getD j 0:Nat):Int)),(36,.slice D n cd),(37,.int .i64 ((j:Nat):Int)),(38,.pointer (some p10)),(39,.int .u64 (((db 4294967296 (Y)).getD j 0:Nat):Int)),(40,.bool false),(4,.bool false)] ⟨rfl,rfl,rfl,rfl,rfl,rfl,rfl,rfl,rfl,rfl,rfl,rfl,rfl,rfl,rfl,rfl,rfl,rfl,rfl,rfl,rfl,rfl,rfl,rfl,trivial⟩ (eo_then (cw_ret (eo_block_ret (eo_thenR (eo_loopR (eo_block_ret (eo_thenR (eo_ret [F0] rfl ⟨rfl,trivial⟩ ?_))))))))
     have hR:¬X<Y:=bl_gt hlen hle2 hwx hwe (by omega) hv hlt hdd |> fun h=>by rwa [nb_db b32,nb_db b32] at h
     exact⟨_,rfl,(by rw [decide_eq_false hR];rfl),hw3⟩
   · 
    refine cw_keep [(0,.slice A n cap),(1,.slice D n cd),(5,.int .i64 ((j:Nat):Int)),(19,.int .i64 ((j:Nat):Int)),(20,.bool true)] ⟨rfl,rfl,rfl,rfl,rfl,trivial⟩ ?_
    obtain⟨v13,hv,e14⟩:∃v,v=wr.drew∧Ext wr v:=⟨_,rfl,(Ext.refl _).drew⟩
    have hw2:=hw1.trans e14
    obtain⟨p15,hp15,hc15,hv15⟩:=((rl0.ext e14)).at (i:=j) (by omega)
    obtain⟨p16,hp16,hc16,hv16⟩:=((rl1.ext e14)).at (i:=j) (by omega)
    refine cw_det mix (w:=v13) [.slice A n cap,.int .i64 ((j:Nat):Int),.pointer (some p15),.int .u64 (((db 4294967296 (X)).getD j 0:Nat):Int),.slice D n cd,.int .i64 ((j:Nat):Int),.pointer (some p16),.int .u64 (((db 4294967296 (Y)).getD j 0:Nat):Int),F0] [v13] [] [[],[],[0,1],[2],[],[],[4,5],[6],[3,7]] [[],[],[0,1],[0,1,2],[],[],[4,5],[4,5,6],[0,1,2,3,4,5,6,7]] [(0,0),(1,0),(2,0),(3,0),(4,0),(5,0),(6,0),(7,0),(8,0)] rfl hv ?_ ?_
    · 
     refine dobs_val _ rfl rfl rfl rfl rfl (rd_move rfl) (dobs_val _ rfl rfl rfl rfl rfl (rd_move rfl) (dobs_val _ rfl rfl rfl rfl rfl (rd_idx rfl rfl un_u64 sz_u64 j rfl (by omega) p15 hp15) (dobs_val _ rfl rfl rfl rfl rfl (rd_load rfl (load_cell1 ag_u64 hc15)) (dobs_val _ rfl rfl rfl rfl rfl (rd_move rfl) (dobs_val _ rfl rfl rfl rfl rfl (rd_move rfl) (dobs_val _ rfl rfl rfl rfl rfl (rd_idx rfl rfl un_u64 sz_u64 j rfl (by omega) p16 hp16) (dobs_val _ rfl rfl rfl rfl rfl (rd_load rfl (load_cell1 ag_u64 hc16)) (dobs_val _ rfl rfl rfl rfl rfl (rd_cmp rfl rfl false (cb_ne_f (a:=(db 4294967296 (X)).getD j 0) (b:=(db 4294967296 (Y)).getD j 0) rfl rfl (by omega))) ?_))))))))
     exact dobs_nil
    clear hv
    refine eo_keep [(0,.slice A n cap),(1,.slice D n cd),(5,.int .i64 ((j:Nat):Int)),(19,.int .i64 ((j:Nat):Int)),(20,.bool true),(23,.slice A n cap),(24,.int .i64 ((j:Nat):Int)),(25,.pointer (some p15)),(26,.int .u64 (((db 4294967296 (X)).getD j 0:Nat):Int)),(27,.slice D n cd),(28,.int .i64 ((j:Nat):Int)),(29,.pointer (some p16)),(30,.int .u64 (((db 4294967296 (Y)).getD j 0:Nat):Int)),(31,.bool false)] ⟨rfl,rfl,rfl,rfl,rfl,rfl,rfl,rfl,rfl,rfl,rfl,rfl,rfl,rfl,trivial⟩ (eo_then (cw_false rfl (cw_skip (eo_block_normal (eo_then (cw_region (mv 1 rfl (wl_ar rfl rfl rfl (((j:Nat):Int)-1) (ar_i64s rfl (by omega) (by omega)) (by decide) (mv 1 rfl (wl_nil (eo_round (⟨v13,j,_⟩:World×Nat×Int) ⟨hw2,(by omega),rfl,bl_step hlen hle2 (by omega) hv (by omega),(rl0.ext e14),(rl1.ext e14)⟩ (show j<j+1 by omega) rfl ⟨rfl,rfl,rfl,trivial⟩)))))))))))
  · 
   obtain rfl:k=0:=by omega
   refine cw_region (mv 1 rfl (wl_cmp rfl rfl rfl false (ge_f (by omega)) (by decide) (ne_ (cw_false rfl (cw_exit (eo_thenX (eo_loopX (eo_block_here (eo_then (sr (mv 1 rfl (ne_ (cw_ret ?_)))))))))))))
   refine eo_ret [F0] rfl ⟨rfl,trivial⟩ ?_
   have hXY:¬X<Y:=by have h1:=nb_db b32 X;have h2:=nb_db b32 Y;rw [List.drop_zero,List.drop_zero,h1,h2] at hv;omega
   have hR:¬X<Y:=hXY
   exact⟨_,rfl,(by rw [decide_eq_false hR];rfl),hw1⟩
def PK (g N q:Nat) (l:List Nat) (w:World) (e:Ending) (w':World):Prop:=
 e= .returned (.tuple #[])∧Upd g w w'∧∃l',Bk w' g 24 (l'.map W64)∧l'.length=N∧Wfb 4294967296 l'∧nb 4294967296 l'=nb 4294967296 l*4+q
theorem push_step {b c x d d' q i:Nat}{l l':List Nat}(h:nb b (l'.take i)+b^i*c=nb b (l.take i)*4+q) (hi:i<l'.length) (hi2:i<l.length) (hx:l.getD i 0=x) (hd:d+b*d'=x*4+c):
  nb b ((l'.set i d).take (i+1))+b^(i+1)*d'=nb b (l.take (i+1))*4+q:=by
 rw [nb_set_snoc b hi,nb_take_snoc b l i hi2,hx,Nat.pow_succ,Nat.mul_assoc,Nat.add_assoc,←Nat.mul_add,hd,Nat.mul_add,Nat.add_mul]
 have e:b^i*(x*4)=b^i*x*4:=by rw [Nat.mul_assoc]
 omega
theorem push_same {l l':List Nat}{i d:Nat}(h:∀j,i≤j→l'.getD j 0=l.getD j 0):∀j,i+1≤j→(l'.set i d).getD j 0=l.getD j 0:=fun j hj=>by rw [getD_set_ne (by omega),h j (by omega)]
theorem push_done {l l':List Nat}{N c q:Nat}(hl:l.length=N) (hl':l'.length=N) (h:nb 4294967296 (l'.take N)+4294967296^N*c=nb 4294967296 (l.take N)*4+q) (hb:nb 4294967296 l*4+q<4294967296^N):nb 4294967296 l'=nb 4294967296 l*4+q:=by
 rw [List.take_of_length_le (by omega),List.take_of_length_le (by omega)] at h
 have hc:c=0:=by
  refine Nat.eq_zero_of_not_pos fun hp=>?_
  have h3:4294967296^N*1≤4294967296^N*c:=Nat.mul_le_mul_left _ hp
  omega
 rw [hc,Nat.mul_zero,Nat.add_zero] at h
 exact h
set_option maxHeartbeats 4000000 in
theorem ref3_push {w:World}{g N q:Nat}{l:List Nat}(hb0:Bk w g 24 (l.map W64)) (hl0:l.length=N) (hN:N≤1099511627776) (hwl:Wfb 4294967296 l) (hq:q≤3) (hfit:nb 4294967296 l*4+q<4294967296^N):
    Calls Try.prog 89 #[.slice (some ⟨g,0,none⟩) N N,.int .u64 ((q:Nat):Int)] w (PK g N q l w):=by
 refine sx_enter Try.func89 rfl (n:=28) rfl (bq rfl) (args:= [.slice (some ⟨g,0,none⟩) N N,.int .u64 ((q:Nat):Int)]) (cw_keep [(0,.slice (some ⟨g,0,none⟩) N N),(1,.int .u64 ((q:Nat):Int))] ⟨rfl,rfl,trivial⟩ (sr (mv 2 rfl (ne_ (sr (mv 1 rfl (ne_ (cw_block ?_))))))))
 refine cw_loop (T:=World×Nat×Nat×List Nat)
  (fun⟨wr,i,c,l'⟩=> [(0,.slice (some ⟨g,0,none⟩) N N),(4,.int .u64 ((c:Nat):Int)),(5,.int .i64 ((i:Nat):Int))])
  (fun⟨wr,i,c,l'⟩=>wr)
  (fun⟨wr,i,c,l'⟩=>(Upd g w wr)∧(i≤N)∧(c≤3)∧(Bk wr g 24 (l'.map W64))∧(l'.length=N)∧(Wfb 4294967296 l')∧(∀j,i≤j→l'.getD j 0=l.getD j 0)∧(nb 4294967296 (l'.take i)+4294967296^i*c=nb 4294967296 (l.take i)*4+q))
  (fun⟨wr,i,c,l'⟩=>N-i)
  (⟨w,0,q,l⟩:World×Nat×Nat×List Nat) ⟨Upd.refl g w,(Nat.zero_le _),(by omega),hb0,hl0,hwl,(fun _ _=>rfl),(by simp [nb])⟩ rfl ⟨rfl,rfl,rfl,trivial⟩ ?_
 rintro⟨wr,i,c,l'⟩ ⟨hu,hi,hc,hb,hl,hwf,hsm,hv⟩
 refine cw_re [(0,.slice (some ⟨g,0,none⟩) N N),(4,.int .u64 ((c:Nat):Int)),(5,.int .i64 ((i:Nat):Int))] wr rfl ⟨rfl,rfl,rfl,trivial⟩ (cw_seq (cw_seq ?_))
 by_cases hin:i<N
 · 
  refine cw_region (mv 2 rfl (pu (v:= .int .i64 ((N:Nat):Int)) rfl (by kernel_rfl) (wl_cmp rfl rfl rfl true (cb_lt_t (a:=i) (b:=N) rfl rfl (by omega)) (by decide) (ne_ (cw_true rfl (cw_skip (eo_then (cw_seq (cw_block (cw_seq ?_))))))))))
  have hd:=Wfb_getD (b:=4294967296) (by decide) hwf i
  refine cw_region (mv 2 rfl (wl_idx rfl rfl rfl un_u64 sz_u64 i rfl (by omega) ⟨g,i,none⟩ (arr_at _ _) (by decide) (wl_load rfl rfl (load_word ag_u64 hb (by rw [hl];omega)) (by decide) (wl_ar rfl rfl rfl (((l'.getD i 0)*4:Nat):Int) (au_mul (a:=l'.getD i 0) (b:=4) rfl rfl (by omega)) (by decide) (mv 1 rfl (wl_ar rfl rfl rfl ((((l'.getD i 0)*4)+c:Nat):Int) (au_add (a:=(l'.getD i 0)*4) (b:=c) rfl rfl (by omega)) (by decide) (mv 1 rfl (ne_ (sr (mv 3 rfl (wl_ar rfl rfl rfl (((((l'.getD i 0)*4)+c)%4294967296:Nat):Int) (au_rem (a:=((l'.getD i 0)*4)+c) (b:=4294967296) rfl rfl (by omega)) (by decide) (wl_idx rfl rfl rfl un_u64 sz_u64 i rfl (by omega) ⟨g,i,none⟩ (arr_at _ _) (by decide) ?_))))))))))))
  have hb2:=hb
  refine wl_stored1 rfl rfl rfl sz_u64 rfl hb2 (len_map (by rw [hl];omega)) rfl ((l'.set i ((((l'.getD i 0)*4)+c)%4294967296)).map W64) (map_W64_set _ _ _) fun v1 hb3 u4 hs5=>(ne_ (cw_region (mv 1 rfl (wl_ar rfl rfl rfl (((((l'.getD i 0)*4)+c)/4294967296:Nat):Int) (au_quo (a:=((l'.getD i 0)*4)+c) (b:=4294967296) rfl rfl (by omega) (by omega)) (by decide) (mv 1 rfl (wl_nil (eo_block_normal (eo_then (cw_region (mv 1 rfl (wl_ar rfl rfl rfl ((i+1:Nat):Int) (ai_add (a:=i) (b:=1) rfl rfl (by omega)) (by decide) (mv 1 rfl (wl_nil ?_)))))))))))))
  refine eo_round (⟨v1,i+1,_,_⟩:World×Nat×Nat×List Nat) ⟨hu.trans u4,(by omega),(by omega),hb3,(len_set (l:=l') (hl)),Wfb_set hwf _ (Nat.mod_lt _ (by decide)),(push_same hsm),(push_step hv (by omega) (by omega) (hsm i (Nat.le_refl _)).symm (Nat.mod_add_div _ _))⟩ (show N-(i+1)<N-i by omega) rfl ⟨rfl,rfl,rfl,trivial⟩
 · 
  refine cw_region (mv 2 rfl (pu (v:= .int .i64 ((N:Nat):Int)) rfl (by kernel_rfl) (wl_cmp rfl rfl rfl false (cb_lt_f (a:=i) (b:=N) rfl rfl (by omega)) (by decide) (ne_ (cw_false rfl (cw_exit (eo_thenX (eo_loopX (eo_block_here (eo_end [] rfl trivial ?_))))))))))
  obtain rfl:i=N:=by omega
  exact⟨rfl,hu,l',hb,hl,hwf,push_done hl0 hl hv hfit⟩
theorem times_in {b P c x y t d d' i j:Nat}{l es:List Nat}(h:nb b l+b^(i+j)*c=P+x*nb b (es.take j)*b^i) (hk:i+j<l.length) (hj:j<es.length) (hy:es.getD j 0=y) (ht:l.getD (i+j) 0=t) (hd:d+b*d'=x*y+t+c):
  nb b (l.set (i+j) d)+b^(i+(j+1))*d'=P+x*nb b (es.take (j+1))*b^i:=by
 have h1:=nb_set b hk d
 rw [ht] at h1
 have e1:x*nb b (es.take (j+1))*b^i=x*nb b (es.take j)*b^i+b^(i+j)*(x*y):=by
  rw [nb_take_snoc b es j hj,hy,Nat.mul_add,Nat.add_mul,Nat.pow_add]
  congr 1
  grind
 have e2:b^(i+j)*(d+b*d')=b^(i+j)*(x*y+t+c):=by rw [hd]
 have e3:b^(i+(j+1))*d'=b^(i+j)*(b*d'):=by rw [←Nat.add_assoc,Nat.pow_succ,Nat.mul_assoc]
 simp only [Nat.mul_add] at e2
 rw [e1,e3]
 omega
theorem zero_set {l:List Nat}{i d k:Nat}(h:∀j,k≤j→l.getD j 0=0) (hi:i<k):∀j,k≤j→(l.set i d).getD j 0=0:=fun j hj=>by rw [getD_set_ne (by omega),h j hj]
theorem times_out {b P c x i m:Nat}{l es xs:List Nat}(h:nb b l+b^(i+m)*c=P*nb b es+x*nb b (es.take m)*b^i) (hk:i+m<l.length) (hm:es.length=m) (hi:i<xs.length) (hx:xs.getD i 0=x) (hP:P=nb b (xs.take i)) (hz:l.getD (i+m) 0=0):
  nb b (l.set (i+m) c)=nb b (xs.take (i+1))*nb b es:=by
 have h1:=nb_set b hk c
 rw [hz,Nat.mul_zero,Nat.add_zero] at h1
 rw [h1,h,List.take_of_length_le (Nat.le_of_eq hm),nb_take_snoc b xs i hi,hx,hP,Nat.add_mul]
 congr 1
 grind
set_option maxHeartbeats 4000000 in
theorem ref3_timesL {w:World}{A D:Option Addr}{n cap m cd:Nat}{xs es:List Nat}(hx:Rd w A n cap xs) (hln:n≤274877906944) (hy:Rd w D m cd es) (hlm:m≤274877906944) (hwx:Wfb 4294967296 xs) (hwe:Wfb 4294967296 es):
    Calls Try.prog 93 #[.slice A n cap,.slice D m cd] w (Gv w (WD (nb 4294967296 xs*nb 4294967296 es))):=by
 have hlen:=hx.len
 have hle2:=hy.len
 refine sx_enter Try.func93 rfl (n:=64) rfl (bq rfl) (args:= [.slice A n cap,.slice D m cd]) (cw_keep [(0,.slice A n cap),(1,.slice D m cd)] ⟨rfl,rfl,trivial⟩ (sr (mv 1 rfl (ne_ (sr (mv 1 rfl (pu (v:= .int .i64 ((n:Nat):Int)) rfl (by kernel_rfl) (mv 1 rfl (pu (v:= .int .i64 ((m:Nat):Int)) rfl (by kernel_rfl) (wl_ar rfl rfl rfl ((n+m:Nat):Int) (ai_add (a:=n) (b:=m) rfl rfl (by omega)) (by decide) (wl_make rfl (k:=n+m) rfl rfl rfl un_u64 info64 rfl (by decide) (by omega) (by decide) fun g1 v2 hg3 hb4 e5=>?_)))))))))))
 rw [replicate_W64] at hb4
 have ge6:w.heap.size≤g1:=by rw [←hg3];exact (Ext.refl w).size
 have ne8:0<cap→∀a,A=some a→a.block≠g1:=fun hc a ha=>by have:=(hx).rv.blk a ha hc;omega
 have ne9:0<cd→∀a,D=some a→a.block≠g1:=fun hc a ha=>by have:=(hy).rv.blk a ha hc;omega
 clear hg3
 have hw1:=(Ext.refl w).trans e5
 refine mv 1 rfl (ne_ (cw_seq (sr (mv 1 rfl (ne_ (cw_block ?_))))))
 refine cw_loop (T:=World×Nat×List Nat)
  (fun⟨wr,i,l⟩=> [(0,.slice A n cap),(1,.slice D m cd),(5,.slice (some ⟨g1,0,none⟩) (n+m) (n+m)),(6,.int .i64 ((i:Nat):Int))])
  (fun⟨wr,i,l⟩=>wr)
  (fun⟨wr,i,l⟩=>(Ext w wr)∧(i≤n)∧(Bk wr g1 24 (l.map W64))∧(l.length=n+m)∧(Wfb 4294967296 l)∧(∀j,i+m≤j→l.getD j 0=0)∧(nb 4294967296 l=nb 4294967296 (xs.take i)*nb 4294967296 es)∧(Rd wr A n cap xs)∧(Rd wr D m cd es))
  (fun⟨wr,i,l⟩=>n-i)
  (⟨v2,0,_⟩:World×Nat×List Nat) ⟨hw1,(Nat.zero_le _),hb4,(List.length_replicate (n:=n+m) (a:=0)),(Wfb_zeros (by decide) _),(fun j _=>getD_zeros _ j),(by rw [List.take_zero,nb_nil,nb_zeros,Nat.zero_mul]),(hx.ext e5),(hy.ext e5)⟩ rfl ⟨rfl,rfl,rfl,rfl,trivial⟩ ?_
 rintro⟨wr,i,l⟩ ⟨hw1,hi,hb,hl,hwf,hz,hv,rl0,rl1⟩
 refine cw_re [(0,.slice A n cap),(1,.slice D m cd),(5,.slice (some ⟨g1,0,none⟩) (n+m) (n+m)),(6,.int .i64 ((i:Nat):Int))] wr rfl ⟨rfl,rfl,rfl,rfl,trivial⟩ (cw_seq (cw_seq ?_))
 by_cases hin:i<n
 · 
  refine cw_region (mv 2 rfl (pu (v:= .int .i64 ((n:Nat):Int)) rfl (by kernel_rfl) (wl_cmp rfl rfl rfl true (cb_lt_t (a:=i) (b:=n) rfl rfl (by omega)) (by decide) (ne_ (cw_true rfl (cw_skip (eo_then (cw_seq (cw_block (sr (mv 1 rfl (ne_ (cw_seq ?_)))))))))))))
  refine sr (mv 1 rfl (ne_ (cw_block ?_)))
  refine cw_loop (T:=World×Nat×Nat×List Nat)
   (fun⟨wr2,j,c,l2⟩=> [(0,.slice A n cap),(1,.slice D m cd),(5,.slice (some ⟨g1,0,none⟩) (n+m) (n+m)),(6,.int .i64 ((i:Nat):Int)),(7,.int .u64 ((c:Nat):Int)),(8,.int .i64 ((j:Nat):Int))])
   (fun⟨wr2,j,c,l2⟩=>wr2)
   (fun⟨wr2,j,c,l2⟩=>(Ext w wr2)∧(j≤m)∧(c≤4294967295)∧(Bk wr2 g1 24 (l2.map W64))∧(l2.length=n+m)∧(Wfb 4294967296 l2)∧(∀q,i+m≤q→l2.getD q 0=0)∧(nb 4294967296 l2+4294967296^(i+j)*c=nb 4294967296 (xs.take i)*nb 4294967296 es+xs.getD i 0*nb 4294967296 (es.take j)*4294967296^i)∧(Rd wr2 A n cap xs)∧(Rd wr2 D m cd es))
   (fun⟨wr2,j,c,l2⟩=>m-j)
   (⟨wr,0,0,_⟩:World×Nat×Nat×List Nat) ⟨hw1,(Nat.zero_le _),(Nat.zero_le _),hb,hl,hwf,hz,(by rw [hv,List.take_zero,nb_nil,Nat.mul_zero,Nat.mul_zero,Nat.zero_mul]),rl0,rl1⟩ rfl ⟨rfl,rfl,rfl,rfl,rfl,rfl,trivial⟩ ?_
  rintro⟨wr2,j,c,l2⟩ ⟨hw1,hj,hc,hb2,hl2,hwf2,hz2,hv2,rl0,rl1⟩
  refine cw_re [(0,.slice A n cap),(1,.slice D m cd),(5,.slice (some ⟨g1,0,none⟩) (n+m) (n+m)),(6,.int .i64 ((i:Nat):Int)),(7,.int .u64 ((c:Nat):Int)),(8,.int .i64 ((j:Nat):Int))] wr2 rfl ⟨rfl,rfl,rfl,rfl,rfl,rfl,trivial⟩ (cw_seq (cw_seq ?_))
  by_cases hjm:j<m
  · 
   refine cw_region (mv 2 rfl (pu (v:= .int .i64 ((m:Nat):Int)) rfl (by kernel_rfl) (wl_cmp rfl rfl rfl true (cb_lt_t (a:=j) (b:=m) rfl rfl (by omega)) (by decide) (ne_ (cw_true rfl (cw_skip (eo_then (cw_seq (cw_block (cw_seq ?_))))))))))
   have hxb:=Wfb_getD (b:=4294967296) (by decide) hwx i
   have hyb:=Wfb_getD (b:=4294967296) (by decide) hwe j
   have hlb:=Wfb_getD (b:=4294967296) (by decide) hwf2 (i+j)
   have hm:(xs.getD i 0)*(es.getD j 0)≤4294967295*4294967295:=Nat.mul_le_mul (by omega) (by omega)
   refine cw_keep [(0,.slice A n cap),(1,.slice D m cd),(5,.slice (some ⟨g1,0,none⟩) (n+m) (n+m)),(6,.int .i64 ((i:Nat):Int)),(7,.int .u64 ((c:Nat):Int)),(8,.int .i64 ((j:Nat):Int)),(22,.int .i64 ((j:Nat):Int)),(23,.slice D m cd),(24,.int .i64 ((m:Nat):Int)),(25,.bool true)] ⟨rfl,rfl,rfl,rfl,rfl,rfl,rfl,rfl,rfl,rfl,trivial⟩ ?_
   obtain⟨v10,hv,e11⟩:∃v,v=wr2.drew∧Ext wr2 v:=⟨_,rfl,(Ext.refl _).drew⟩
   have hw2:=hw1.trans e11
   obtain⟨p12,hp12,hc12,hv12⟩:=((rl0.ext e11)).at (i:=i) (by omega)
   obtain⟨p13,hp13,hc13,hv13⟩:=((rl1.ext e11)).at (i:=j) (by omega)
   refine cw_det mix (w:=v10) [.slice A n cap,.int .i64 ((i:Nat):Int),.pointer (some p12),.int .u64 ((xs.getD i 0:Nat):Int),.slice D m cd,.int .i64 ((j:Nat):Int),.pointer (some p13),.int .u64 ((es.getD j 0:Nat):Int),.int .u64 (((xs.getD i 0)*(es.getD j 0):Nat):Int),.slice (some ⟨g1,0,none⟩) (n+m) (n+m),.int .i64 ((i:Nat):Int),.int .i64 ((j:Nat):Int),.int .i64 ((i+j:Nat):Int),.pointer (some (⟨g1,i+j,none⟩)),.int .u64 ((l2.getD (i+j) 0:Nat):Int),.int .u64 ((((xs.getD i 0)*(es.getD j 0))+(l2.getD (i+j) 0):Nat):Int),.int .u64 ((c:Nat):Int),.int .u64 (((((xs.getD i 0)*(es.getD j 0))+(l2.getD (i+j) 0))+c:Nat):Int),.int .u64 (((((xs.getD i 0)*(es.getD j 0))+(l2.getD (i+j) 0))+c:Nat):Int)] [v10] [] [[],[],[0,1],[2],[],[],[4,5],[6],[3,7],[],[],[],[10,11],[9,12],[13],[8,14],[],[15,16],[17]] [[],[],[0,1],[0,1,2],[],[],[4,5],[4,5,6],[0,1,2,3,4,5,6,7],[],[],[],[10,11],[9,10,11,12],[9,10,11,12,13],[0,1,2,3,4,5,6,7,8,9,10,11,12,13,14],[],[0,1,2,3,4,5,6,7,8,9,10,11,12,13,14,15,16],[0,1,2,3,4,5,6,7,8,9,10,11,12,13,14,15,16,17]] [(0,0),(1,0),(2,0),(3,0),(4,0),(5,0),(6,0),(7,0),(8,0),(9,0),(10,0),(11,0),(12,0),(13,0),(14,0),(15,0),(16,0),(17,0),(18,0)] rfl hv ?_ ?_
   · 
    refine dobs_val _ rfl rfl rfl rfl rfl (rd_move rfl) (dobs_val _ rfl rfl rfl rfl rfl (rd_move rfl) (dobs_val _ rfl rfl rfl rfl rfl (rd_idx rfl rfl un_u64 sz_u64 i rfl (by omega) p12 hp12) (dobs_val _ rfl rfl rfl rfl rfl (rd_load rfl (load_cell1 ag_u64 hc12)) (dobs_val _ rfl rfl rfl rfl rfl (rd_move rfl) (dobs_val _ rfl rfl rfl rfl rfl (rd_move rfl) (dobs_val _ rfl rfl rfl rfl rfl (rd_idx rfl rfl un_u64 sz_u64 j rfl (by omega) p13 hp13) (dobs_val _ rfl rfl rfl rfl rfl (rd_load rfl (load_cell1 ag_u64 hc13)) (dobs_val _ rfl rfl rfl rfl rfl (rd_ar rfl rfl (((xs.getD i 0)*(es.getD j 0):Nat):Int) (au_mul (a:=xs.getD i 0) (b:=es.getD j 0) rfl rfl (by omega))) (dobs_val _ rfl rfl rfl rfl rfl (rd_move rfl) (dobs_val _ rfl rfl rfl rfl rfl (rd_move rfl) (dobs_val _ rfl rfl rfl rfl rfl (rd_move rfl) (dobs_val _ rfl rfl rfl rfl rfl (rd_ar rfl rfl ((i+j:Nat):Int) (ai_add (a:=i) (b:=j) rfl rfl (by omega))) (dobs_val _ rfl rfl rfl rfl rfl (rd_idx rfl rfl un_u64 sz_u64 (i+j) rfl (by omega) ⟨g1,i+j,none⟩ (arr_at _ _)) ?_)))))))))))))
    refine dobs_val _ rfl rfl rfl rfl rfl (rd_load rfl (load_word ag_u64 (hb2.ext e11) (by rw [hl2];omega))) (dobs_val _ rfl rfl rfl rfl rfl (rd_ar rfl rfl ((((xs.getD i 0)*(es.getD j 0))+(l2.getD (i+j) 0):Nat):Int) (au_add (a:=(xs.getD i 0)*(es.getD j 0)) (b:=l2.getD (i+j) 0) rfl rfl (by omega))) (dobs_val _ rfl rfl rfl rfl rfl (rd_move rfl) (dobs_val _ rfl rfl rfl rfl rfl (rd_ar rfl rfl (((((xs.getD i 0)*(es.getD j 0))+(l2.getD (i+j) 0))+c:Nat):Int) (au_add (a:=((xs.getD i 0)*(es.getD j 0))+(l2.getD (i+j) 0)) (b:=c) rfl rfl (by omega))) (dobs_val _ rfl rfl rfl rfl rfl (rd_assign rfl) ?_))))
    exact dobs_nil
   clear hv
   refine eo_keep [(0,.slice A n cap),(1,.slice D m cd),(5,.slice (some ⟨g1,0,none⟩) (n+m) (n+m)),(6,.int .i64 ((i:Nat):Int)),(7,.int .u64 ((c:Nat):Int)),(8,.int .i64 ((j:Nat):Int)),(22,.int .i64 ((j:Nat):Int)),(23,.slice D m cd),(24,.int .i64 ((m:Nat):Int)),(25,.bool true),(28,.slice A n cap),(29,.int .i64 ((i:Nat):Int)),(30,.pointer (some p12)),(31,.int .u64 ((xs.getD i 0:Nat):Int)),(32,.slice D m cd),(33,.int .i64 ((j:Nat):Int)),(34,.pointer (some p13)),(35,.int .u64 ((es.getD j 0:Nat):Int)),(36,.int .u64 (((xs.getD i 0)*(es.getD j 0):Nat):Int)),(37,.slice (some ⟨g1,0,none⟩) (n+m) (n+m)),(38,.int .i64 ((i:Nat):Int)),(39,.int .i64 ((j:Nat):Int)),(40,.int .i64 ((i+j:Nat):Int)),(41,.pointer (some (⟨g1,i+j,none⟩))),(42,.int .u64 ((l2.getD (i+j) 0:Nat):Int)),(43,.int .u64 ((((xs.getD i 0)*(es.getD j 0))+(l2.getD (i+j) 0):Nat):Int)),(44,.int .u64 ((c:Nat):Int)),(45,.int .u64 (((((xs.getD i 0)*(es.getD j 0))+(l2.getD (i+j) 0))+c:Nat):Int)),(9,.int .u64 (((((xs.getD i 0)*(es.getD j 0))+(l2.getD (i+j) 0))+c:Nat):Int))] ⟨rfl,rfl,rfl,rfl,rfl,rfl,rfl,rfl,rfl,rfl,rfl,rfl,rfl,rfl,rfl,rfl,rfl,rfl,rfl,rfl,rfl,rfl,rfl,rfl,rfl,rfl,rfl,rfl,rfl,trivial⟩ (eo_then (sr (mv 3 rfl (wl_ar rfl rfl rfl ((i+j:Nat):Int) (ai_add (a:=i) (b:=j) rfl rfl (by omega)) (by decide) (mv 1 rfl (wl_ar rfl rfl rfl ((((((xs.getD i 0)*(es.getD j 0))+(l2.getD (i+j) 0))+c)%4294967296:Nat):Int) (au_rem (a:=(((xs.getD i 0)*(es.getD j 0))+(l2.getD (i+j) 0))+c) (b:=4294967296) rfl rfl (by omega)) (by decide) (wl_idx rfl rfl rfl un_u64 sz_u64 (i+j) rfl (by omega) ⟨g1,i+j,none⟩ (arr_at _ _) (by decide) ?_)))))))
   have hb15:=(hb2.ext e11)
   refine wl_stored1 rfl rfl rfl sz_u64 rfl hb15 (len_map (by rw [hl2];omega)) rfl ((l2.set (i+j) (((((xs.getD i 0)*(es.getD j 0))+(l2.getD (i+j) 0))+c)%4294967296)).map W64) (map_W64_set _ _ _) fun v14 hb16 u17 hs18=>?_
   have hw3:=u17.ext hw2 ge6
   refine ne_ (cw_region (mv 1 rfl (wl_ar rfl rfl rfl ((((((xs.getD i 0)*(es.getD j 0))+(l2.getD (i+j) 0))+c)/4294967296:Nat):Int) (au_quo (a:=(((xs.getD i 0)*(es.getD j 0))+(l2.getD (i+j) 0))+c) (b:=4294967296) rfl rfl (by omega) (by omega)) (by decide) (mv 1 rfl (wl_nil (eo_block_normal (eo_then (cw_region (mv 1 rfl (wl_ar rfl rfl rfl ((j+1:Nat):Int) (ai_add (a:=j) (b:=1) rfl rfl (by omega)) (by decide) (mv 1 rfl (wl_nil (eo_round (⟨v14,j+1,_,_⟩:World×Nat×Nat×List Nat) ⟨hw3,(by omega),(by omega),hb16,(len_set (l:=l2) (hl2)),Wfb_set hwf2 _ (Nat.mod_lt _ (by decide)),(zero_set hz2 (by omega)),(times_in hv2 (by omega) (by omega) rfl rfl (Nat.mod_add_div _ _)),(Rd.updL (rl0.ext e11) u17 ne8),(Rd.updL (rl1.ext e11) u17 ne9)⟩ (show m-(j+1)<m-j by omega) rfl ⟨rfl,rfl,rfl,rfl,rfl,rfl,trivial⟩)))))))))))))
  · 
   have hjm2:j=m:=by omega
   rw [hjm2] at hv2
   refine cw_region (mv 2 rfl (pu (v:= .int .i64 ((m:Nat):Int)) rfl (by kernel_rfl) (wl_cmp rfl rfl rfl false (cb_lt_f (a:=j) (b:=m) rfl rfl (by omega)) (by decide) (ne_ (cw_false rfl (cw_exit (eo_thenX (eo_loopX (eo_block_here (eo_then (cw_region (mv 3 rfl (pu (v:= .int .i64 ((m:Nat):Int)) rfl (by kernel_rfl) ?_)))))))))))))
   refine wl_ar rfl rfl rfl ((i+m:Nat):Int) (ai_add (a:=i) (b:=m) rfl rfl (by omega)) (by decide) (mv 1 rfl (wl_idx rfl rfl rfl un_u64 sz_u64 (i+m) rfl (by omega) ⟨g1,i+m,none⟩ (arr_at _ _) (by decide) (wl_stored1 rfl rfl rfl sz_u64 rfl hb2 (len_map (by rw [hl2];omega)) rfl ((l2.set (i+m) c).map W64) (map_W64_set _ _ _) fun v19 hb21 u22 hs23=>?_)))
   have hw2:=u22.ext hw1 ge6
   refine wl_nil (eo_block_normal (eo_then (cw_region (mv 1 rfl (wl_ar rfl rfl rfl ((i+1:Nat):Int) (ai_add (a:=i) (b:=1) rfl rfl (by omega)) (by decide) (mv 1 rfl (wl_nil (eo_round (⟨v19,i+1,_⟩:World×Nat×List Nat) ⟨hw2,(by omega),hb21,(len_set (l:=l2) (hl2)),Wfb_set hwf2 _ (by omega),(zero_set (fun j hj=>hz2 j (by omega)) (by omega)),(times_out hv2 (by omega) hle2 (by omega) rfl rfl (hz2 _ (Nat.le_refl _))),(Rd.updL rl0 u22 ne8),(Rd.updL rl1 u22 ne9)⟩ (show n-(i+1)<n-i by omega) rfl ⟨rfl,rfl,rfl,rfl,trivial⟩))))))))
 · 
  refine cw_region (mv 2 rfl (pu (v:= .int .i64 ((n:Nat):Int)) rfl (by kernel_rfl) (wl_cmp rfl rfl rfl false (cb_lt_f (a:=i) (b:=n) rfl rfl (by omega)) (by decide) (ne_ (cw_false rfl (cw_exit (eo_thenX (eo_loopX (eo_block_here (eo_then (sr (mv 1 rfl (cl (vs:= [.slice (some ⟨g1,0,none⟩) (n+m) (n+m)]) hw1 (ref3_Trim (hb.rd0 hwf.wf hl (by omega)) (by omega)) rfl (by kernel_rfl) fun xr26 v24 r26 e25 hw2=>?_)))))))))))))
  obtain⟨k27,rfl,hk27,ht27,hv27⟩:=r26
  refine mv 1 rfl (ne_ (cw_ret (eo_ret [.slice (some ⟨g1,0,none⟩) k27 (n+m)] rfl ⟨rfl,trivial⟩ ?_)))
  have hval:nb 4294967296 l=nb 4294967296 xs*nb 4294967296 es:=by rw [hv,List.take_of_length_le (by omega)]
  have hr:=((hb.ext e25).rd0 hwf.wf hl (by omega)).trim hwf hk27 ht27 hv27
  rw [hval] at hr
  exact⟨_,rfl,⟨_,_,_,rfl,hr⟩,hw2⟩
theorem ref3_times {w:World}{A D:Option Addr}{n cap m cd X Y:Nat}(hx:Rd w A n cap (db 4294967296 X)) (hln:n≤274877906944) (hy:Rd w D m cd (db 4294967296 Y)) (hlm:m≤274877906944):
  Calls Try.prog 93 #[.slice A n cap,.slice D m cd] w (Gv w (WD (X*Y))):=by
 have h:=ref3_timesL hx hln hy hlm (Wfb_db b32 _) (Wfb_db b32 _)
 rwa [nb_db b32,nb_db b32] at h
set_option maxHeartbeats 4000000 in
theorem ref3_bitsOf {w:World}{A:Option Addr}{n cap:Nat}{xs:List Nat}(hx:Rd w A n cap xs) (hln:n≤274877906944) (hwx:Wfb 4294967296 xs) (hbb:blen (nb 4294967296 xs)≤35184372088864):
    Calls Try.prog 94 #[.slice A n cap] w (Gv w (Is (.int .i64 ((blen (nb 4294967296 xs):Nat):Int)))):=by
 have hlen:=hx.len
 have hle:=hx.rv.le
 refine sx_enter Try.func94 rfl (n:=27) rfl (bq rfl) (args:= [.slice A n cap]) (cw_keep [(0,.slice A n cap)] ⟨rfl,trivial⟩ (sr (mv 1 rfl (ne_ (sr (mv 1 rfl (cl (vs:= [.slice A n cap]) (Ext.refl w) (ref3_Trim hx (by omega)) rfl (by kernel_rfl) fun xr3 v1 r3 e2 hw1=>?_)))))))
 obtain⟨k4,rfl,hk4,ht4,hv4⟩:=r3
 have rd4:=((hx.ext e2)).take hk4 (by omega) (Nat.le_refl _)
 refine mv 1 rfl (ne_ (cw_seq (cw_seq ?_)))
 have hrt:=hx.trim hwx hk4 ht4 hv4
 have hlt:=hrt.len
 by_cases hn0:k4=0
 · 
  have hX0:nb 4294967296 xs=0:=(len_db_zero b32).1 (by omega)
  refine cw_region (mv 1 rfl (pu (v:= .int .i64 ((k4:Nat):Int)) rfl (by kernel_rfl) (wl_cmp rfl rfl rfl true (cb_eq_t (a:=k4) (b:=0) rfl rfl (by omega)) (by decide) (ne_ (cw_true rfl (sr (mv 1 rfl (ne_ (cw_ret (eo_thenR (eo_ret [I0] rfl ⟨rfl,trivial⟩ ?_)))))))))))
  exact⟨_,rfl,(by rw [hX0,blen_zero];rfl),hw1⟩
 · 
  obtain⟨hx0,hbl⟩:=blen_db3 b32 (k:=32) (by decide) (v:=nb 4294967296 xs) (m:=k4) hlt.symm (by omega) rfl
  have hxb:=Wfb_getD (b:=4294967296) (by decide) (Wfb_db b32 (nb 4294967296 xs)) (k4-1)
  refine cw_region (mv 1 rfl (pu (v:= .int .i64 ((k4:Nat):Int)) rfl (by kernel_rfl) (wl_cmp rfl rfl rfl false (cb_eq_f (a:=k4) (b:=0) rfl rfl (by omega)) (by decide) (ne_ (cw_false rfl (cw_skip (eo_then (sr (mv 1 rfl (pu (v:= .int .i64 ((k4:Nat):Int)) rfl (by kernel_rfl) (wl_ar rfl rfl rfl ((k4-1:Nat):Int) (ai_sub (a:=k4) (b:=1) rfl rfl (by omega) (by omega)) (by decide) (wl_ar rfl rfl rfl ((32*(k4-1):Nat):Int) (ai_mul (a:=32) (b:=k4-1) rfl rfl (by omega)) (by decide) (mv 1 rfl ?_)))))))))))))
  refine ne_ (cw_seq (sr (mv 2 rfl (pu (v:= .int .i64 ((k4:Nat):Int)) rfl (by kernel_rfl) (wl_ar rfl rfl rfl ((k4-1:Nat):Int) (ai_sub (a:=k4) (b:=1) rfl rfl (by omega) (by omega)) (by decide) ?_)))))
  obtain⟨p5,hp5,hc5,hv5⟩:=((hrt.ext e2)).at (i:=k4-1) (by omega)
  refine wl_idx rfl rfl rfl un_u64 sz_u64 (k4-1) rfl (by omega) p5 hp5 (by decide) (wl_load rfl rfl (load_cell1 ag_u64 hc5) (by decide) (mv 1 rfl (ne_ (cw_block ?_))))
  refine cw_loop (T:=World×Nat×Nat)
   (fun⟨wr,c,x⟩=> [(3,.int .i64 ((c:Nat):Int)),(4,.int .u64 ((x:Nat):Int))])
   (fun⟨wr,c,x⟩=>wr)
   (fun⟨wr,c,x⟩=>(Ext w wr)∧(c+blen x=blen (nb 4294967296 xs))∧(x≤4294967295)∧(c+blen x≤35184372088864))
   (fun⟨wr,c,x⟩=>x)
   (⟨v1,_,_⟩:World×Nat×Nat) ⟨hw1,hbl,(by omega),(by rw [hbl];exact hbb)⟩ rfl ⟨rfl,rfl,trivial⟩ ?_
  rintro⟨wr,c,x⟩ ⟨hw1,hcx,hxl,hcb⟩
  refine cw_re [(3,.int .i64 ((c:Nat):Int)),(4,.int .u64 ((x:Nat):Int))] wr rfl ⟨rfl,rfl,trivial⟩ (cw_seq (cw_seq ?_))
  by_cases hx1:x>0
  · 
   have hbh:=blen_half3 (q:=x) (by omega)
   refine cw_region (mv 1 rfl (wl_cmp rfl rfl rfl true (cb_gt_t (a:=x) (b:=0) rfl rfl (by omega)) (by decide) (ne_ (cw_true rfl (cw_skip (eo_then (cw_seq (cw_block (cw_region (mv 1 rfl (wl_ar rfl rfl rfl ((c+1:Nat):Int) (ai_add (a:=c) (b:=1) rfl rfl (by omega)) (by decide) (mv 1 rfl (wl_nil ?_)))))))))))))
   refine eo_block_normal (eo_then (cw_region (mv 1 rfl (wl_ar rfl rfl rfl ((x/2:Nat):Int) (au_quo (a:=x) (b:=2) rfl rfl (by omega) (by omega)) (by decide) (mv 1 rfl (wl_nil (eo_round (⟨wr,c+1,x/2⟩:World×Nat×Nat) ⟨hw1,(by have:=blen_half3 (q:=x) (by omega);omega),(by omega),(by have:=blen_half3 (q:=x) (by omega);omega)⟩ (show x/2<x by omega) rfl ⟨rfl,rfl,trivial⟩)))))))
  · 
   refine cw_region (mv 1 rfl (wl_cmp rfl rfl rfl false (cb_gt_f (a:=x) (b:=0) rfl rfl (by omega)) (by decide) (ne_ (cw_false rfl (cw_exit (eo_thenX (eo_loopX (eo_block_here (eo_then (sr (mv 2 rfl (ne_ (cw_ret ?_)))))))))))))
   refine eo_ret [.int .i64 ((c:Nat):Int)] rfl ⟨rfl,trivial⟩ ?_
   exact⟨_,rfl,(by rw [←hcx,show x=0 by omega,blen_zero];rfl),hw1⟩
set_option maxHeartbeats 4000000 in
theorem ref3_Gcd {w:World}{A D:Option Addr}{n cap m cd:Nat}{xs ys:List Nat}(hx:Rd w A n cap xs) (hln:n≤137438953472) (hy:Rd w D m cd ys) (hlm:m≤137438953472):
    Calls Try.prog 62 #[.slice A n cap,.slice D m cd] w (Gv w (WR w.heap.size (Nat.gcd (nv xs) (nv ys)))):=by
 refine sx_enter Try.func62 rfl (n:=26) rfl (bq rfl) (args:= [.slice A n cap,.slice D m cd]) (cw_keep [(0,.slice A n cap),(1,.slice D m cd)] ⟨rfl,rfl,trivial⟩ (sr (mv 1 rfl (ne_ (sr (mv 1 rfl (cl (vs:= [.slice A n cap]) (Ext.refl w) (ref3_halves hx (by omega)) rfl (by kernel_rfl) fun xr3 v1 r3 e2 hw1=>?_)))))))
 obtain⟨A4,n4,c4,rfl,rd4⟩:=r3
 refine mv 1 rfl (ne_ (sr (mv 1 rfl (cl (vs:= [.slice D m cd]) hw1 (ref3_halves (hy.ext e2) (by omega)) rfl (by kernel_rfl) fun xr7 v5 r7 e6 hw2=>?_))))
 obtain⟨A8,n8,c8,rfl,rd8⟩:=r7
 refine mv 1 rfl (ne_ (cw_seq (cw_block ?_)))
 have hxn:=rd4.hl hx (Nat.le_refl _)
 have hyn:=rd8.hl hy (Nat.le_refl _)
 refine cw_loop (T:=World×Option Addr×Nat×Nat×Nat×Option Addr×Nat×Nat×Nat)
  (fun⟨wr,A1,n1,c1,X1,B1,m1,d1,Y1⟩=> [(5,.slice A1 n1 c1),(6,.slice B1 m1 d1)])
  (fun⟨wr,A1,n1,c1,X1,B1,m1,d1,Y1⟩=>wr)
  (fun⟨wr,A1,n1,c1,X1,B1,m1,d1,Y1⟩=>(Ext w wr)∧(n1≤274877906944)∧(m1≤274877906944)∧(Nat.gcd X1 Y1=Nat.gcd (nv xs) (nv ys))∧(Rd wr A1 n1 c1 (db 4294967296 (X1)))∧(Rd wr B1 m1 d1 (db 4294967296 (Y1))))
  (fun⟨wr,A1,n1,c1,X1,B1,m1,d1,Y1⟩=>Y1)
  (⟨v5,_,_,_,_,_,_,_,_⟩:World×Option Addr×Nat×Nat×Nat×Option Addr×Nat×Nat×Nat) ⟨hw2,(by omega),(by omega),rfl,(rd4.ext e6),rd8⟩ rfl ⟨rfl,rfl,trivial⟩ ?_
 rintro⟨wr,A1,n1,c1,X1,B1,m1,d1,Y1⟩ ⟨hw1,hn1,hm1,hg,rl5,rl6⟩
 refine cw_re [(5,.slice A1 n1 c1),(6,.slice B1 m1 d1)] wr rfl ⟨rfl,rfl,trivial⟩ (cw_seq (cw_seq ?_))
 by_cases hyp:m1>0
 · 
  have hY0:Y1≠0:=fun e=>by have h:=rl6.len;rw [e,db_zero] at h;simp only [List.length_nil] at h;omega
  refine cw_region (mv 1 rfl (pu (v:= .int .i64 ((m1:Nat):Int)) rfl (by kernel_rfl) (wl_cmp rfl rfl rfl true (cb_gt_t (a:=m1) (b:=0) rfl rfl (by omega)) (by decide) (ne_ (cw_true rfl (cw_skip (eo_then (cw_block (sr (mv 2 rfl (cl (vs:= [.slice A1 n1 c1,.slice B1 m1 d1]) hw1 (ref3_divide_ rl5 (by omega) rl6 (by omega) hY0) rfl (by kernel_rfl) fun xr11 v9 r11 e10 hw2=>?_)))))))))))
  obtain⟨_,_,rfl,⟨A13,n13,c13,rfl,rd13⟩,⟨A14,n14,c14,rfl,rd14⟩⟩:=r11
  refine mv 1 rfl (pu (v:= .slice A13 n13 c13) rfl (by kernel_rfl) (pu (v:= .slice A14 n14 c14) rfl (by kernel_rfl) (mv 2 rfl (ne_ (sr (mv 2 rfl (ne_ (cw_region (mv 2 rfl (wl_nil (eo_block_normal (eo_round (⟨v9,_,_,_,Y1,_,_,_,X1%Y1⟩:World×Option Addr×Nat×Nat×Nat×Option Addr×Nat×Nat×Nat) ⟨hw2,(by omega),(by have h1:=rd14.len;have h2:=rl6.len;have h3:=len_db_mono b32 (Nat.le_of_lt (Nat.mod_lt X1 (show Y1>0 by omega)));omega),(by rw [←hg,Nat.gcd_comm X1 Y1,Nat.gcd_rec Y1 X1,Nat.gcd_comm]),(rl6.ext e10),rd14⟩ (show X1%Y1<Y1 from Nat.mod_lt _ (by omega)) rfl ⟨rfl,rfl,trivial⟩))))))))))))
 · 
  obtain rfl:Y1=0:=(len_db_zero b32).1 (by have h:=rl6.len;omega)
  rw [Nat.gcd_zero_right] at hg
  refine cw_region (mv 1 rfl (pu (v:= .int .i64 ((m1:Nat):Int)) rfl (by kernel_rfl) (wl_cmp rfl rfl rfl false (cb_gt_f (a:=m1) (b:=0) rfl rfl (by omega)) (by decide) (ne_ (cw_false rfl (cw_exit (eo_thenX (eo_loopX (eo_block_here (eo_then (sr (mv 1 rfl (cl (vs:= [.slice A1 n1 c1]) hw1 (ref3_words_ hw1.size rl5 (by omega)) rfl (by kernel_rfl) fun xr17 v15 r17 e16 hw2=>?_)))))))))))))
  obtain⟨A18,n18,c18,rfl,j18,o18⟩:=r17
  refine mv 1 rfl (ne_ (cw_ret (eo_ret [.slice A18 n18 c18] rfl ⟨rfl,trivial⟩ ?_)))
  exact⟨_,rfl,(by rw [←hg];exact⟨_,_,_,rfl,j18,o18⟩),hw2⟩
theorem drop_getD0 {l:List Nat}{q:Nat}(h:q<l.length):l.drop q=l.getD q 0::l.drop (q+1):=by rw [List.drop_eq_getElem_cons h,List.getD_eq_getElem?_getD,List.getElem?_eq_getElem h];rfl
def mkr (i:Nat):Nat:=6510516211317473280+i
def room (xs:List Nat):List Nat:=xs++(List.range 80).map fun k=>mkr (xs.length+k)
theorem room_len (xs:List Nat):(room xs).length=xs.length+80:=by unfold room;rw [List.length_append,List.length_map,List.length_range]
theorem room_low {xs:List Nat}{i:Nat}(h:i<xs.length):(room xs).getD i 0=xs.getD i 0:=by
 unfold room;rw [List.getD_eq_getElem?_getD,List.getElem?_append_left h,←List.getD_eq_getElem?_getD]
theorem room_high {xs:List Nat}{i:Nat}(h:xs.length≤i) (h2:i<xs.length+80):(room xs).getD i 0=mkr i:=by
 unfold room;rw [List.getD_eq_getElem?_getD,List.getElem?_append_right h,List.getElem?_map,List.getElem?_range (by omega)]
 show mkr _=_
 congr 1;omega
theorem room_step {xs l:List Nat}{i:Nat}(hl:l.length=xs.length+80) (hi:i<xs.length+80) (h:l.take i=(room xs).take i):(l.set i ((room xs).getD i 0)).take (i+1)=(room xs).take (i+1):=by
 rw [List.take_add_one,List.take_add_one,List.take_set_of_le (Nat.le_refl _),h,List.getElem?_set_self (by omega),List.getElem?_eq_getElem (by rw [room_len];exact hi),List.getD_eq_getElem?_getD,List.getElem?_eq_getElem (by rw [room_len];exact hi)]
 rfl
section
variable {P:Program}{Q:Exit→Act→World→Prop}{n:Nat}{l:Fr}{w:World}{ops:Array Oper}{rest:List Oper}{d:Nat}{ty:TypeId}{pos:String}{af:Array Edge}
theorem wl_copy {x y:Operand}{T e t:TypeId}{dp sp:Option Addr}{dLen dCap sLen sCap g:Nat}{vs us:List Value}(hx:evo l x=some (.slice dp dLen dCap)) (hy:evo l y=some (.slice sp sLen sCap)) (hu:P.underlying T=some (.slice e)) (hsz:(P.info? e).map (·.size)=some 1)
  (hg:Bk w g t vs) (hsrc:Rv w 1 sp sLen sCap us) (hpos:0<dLen→dp=some ⟨g,0,none⟩) (hfit:0+dLen≤vs.length) (h1:∀v∈us,v.oneCell'=true) (hn:d<n)
  (k:∀w',Bk w' g t (splice vs 0 (us.take dLen))→Upd g w w'→wl P ops Q n rest ((d,.int .i64 ((min sLen dLen:Nat):Int))::l) w'):
  wl P ops Q n (⟨some d,.call {callee:= .builtin .copy,args:= #[x,y],argTypes:= #[T,T]},ty,pos,af,none⟩::rest) l w:=fun _ ha=>
 wpc_copy rfl x y T T rfl (ha.ev hx) (ha.ev hy) hu hsz hg hsrc hpos hfit h1 fun w' h2 h3=>k w' h2 h3 _ (ha.put hn _)
end
section
variable {P:Program}{Q:Exit→Act→World→Prop}{n:Nat}{l:Fr}{w:World}{ops:Array Oper}{rest:List Oper}{d:Nat}{op:Op}{ty:TypeId}{pos:String}{af:Array Edge}{gd:Option (Nat×Bool)}
def notEq:BinOp→Bool
 | .eql=>false
 | .neq=>false
 | _=>true
theorem run_op {o:BinOp}{t:TypeId}{x y:Operand}{u v r:Value}(ho:notEq o=true) (hb:(binOp o t u v).run P w= .ok r w):((do eqGuard o t x y u v;binOp o t u v):Sem Value).run P w= .ok r w:=by
 cases o <;> first | (cases ho;done) | (simp only [eqGuard,Sem.run_bind];exact hb) | (simp [eqGuard,Sem.run_bind,hb])
theorem wl_op {o:BinOp}{t t':TypeId}{x y:Operand}{u v r:Value}(hw:guardB ops l gd=some true) (hx:evo l x=some u) (hy:evo l y=some v) (ho:notEq o=true) (hb:∀w,(binOp o t u v).run P w= .ok r w) (hn:d<n)
  (h:wl P ops Q n rest ((d,r)::l) w):wl P ops Q n (⟨some d,.binOp o t x y t',ty,pos,af,gd⟩::rest) l w:=
 wl_val hw hn (fun a' ha=>by
  have e:((do eqGuard o t x y (a'.eval x) (a'.eval y);binOp o t (a'.eval x) (a'.eval y)):Sem Value).run P w= .ok r w:=by
   rw [ha.ev hx,ha.ev hy];exact run_op ho (hb w)
  show ((((do eqGuard o t x y (a'.eval x) (a'.eval y);binOp o t (a'.eval x) (a'.eval y)):Sem Value)>>=fun r=>pure (Next.value r)):Sem Next).run P w=_
  rw [Sem.run_bind,e];rfl) h
theorem wl_pureE {v v':Value}(hw:guardB ops l gd=some true) (hk:known l op=true) (hn:d<n) (hr:(execOp (rho l) ⟨some d,op,ty,pos,af,gd⟩).run P w= .ok (.value v) w) (e:v=v')
  (h:wl P ops Q n rest ((d,v')::l) w):wl P ops Q n (⟨some d,op,ty,pos,af,gd⟩::rest) l w:=wl_pure hw hk hn hr (by rw [e];exact h)
end
theorem cv_u64 {x:Nat}(h:x≤18446744073709551615):Value.int .u64 (IntKind.u64.wrap (x:Int))= .int .u64 (x:Int):=by rw [IntWalk.u64_in _ ⟨by omega,by omega⟩]
theorem db_digit {b:Nat}(hb:2≤b) (X:Nat):∀j,(db b X).getD j 0=X/b^j%b:=by
 induction X using db_ind hb with
 | h0=>intro j;rw [db_zero,Nat.zero_div,Nat.zero_mod];rfl
 | hs n h ih=>
  intro j
  rw [db_pos hb h]
  cases j with
  | zero=>rw [Nat.pow_zero,Nat.div_one];rfl
  | succ j=>rw [Nat.pow_succ,Nat.mul_comm,←Nat.div_div_eq_div_mul];exact ih j
theorem copy_all {N:Nat}{lx ly:List Nat}(hx:lx.length=N) (hy:ly.length=N):splice (lx.map W64) 0 ((ly.map W64).take N)=ly.map W64:=by
 unfold splice
 rw [List.take_zero,List.nil_append,Nat.zero_add,List.take_of_length_le (by rw [List.length_map];omega),List.length_map,List.drop_of_length_le (by rw [List.length_map];omega),List.append_nil]
theorem one_W64' {xs:List Nat}:∀v∈xs.map W64,v.oneCell'=true:=fun v hv=>by
 obtain⟨x,_,rfl⟩:=List.mem_map.1 hv
 rfl
theorem sq_small {X L n s:Nat}(hX:X<4294967296^L) (hn:n=L/2+2) (hs:s*s≤X):8*s+8≤4294967296^n:=by
 have h1:s<4294967296^(n-1):=by
  refine Nat.lt_of_not_le fun h=>?_
  have h2:=Nat.mul_le_mul h h
  rw [←Nat.pow_add] at h2
  have h3:4294967296^L≤4294967296^(n-1+(n-1)):=Nat.pow_le_pow_right (by decide) (by omega)
  omega
 obtain⟨k,rfl⟩:∃k,n=k+1:=⟨n-1,by omega⟩
 rw [Nat.add_sub_cancel] at h1
 rw [Nat.pow_succ]
 omega
theorem sq_pair {X i:Nat}:(db 4294967296 X).getD (i/16) 0/2^(2*(i%16))%4=X/4^i%4:=by
 rw [db_digit b32]
 have e1:(4294967296:Nat)^(i/16)=2^(32*(i/16)):=by rw [Nat.pow_mul]
 have e2:(4:Nat)^i=2^(32*(i/16))*2^(2*(i%16)):=by
  rw [←Nat.pow_add,show 32*(i/16)+2*(i%16)=2*i by omega,Nat.pow_mul]
 rw [e1,e2,←Nat.div_div_eq_div_mul]
 generalize X/2^(32*(i/16))=Z
 have e3:(4294967296:Nat)=2^(2*(i%16))*2^(32-2*(i%16)):=by
  rw [←Nat.pow_add,show 2*(i%16)+(32-2*(i%16))=32 by omega]
 rw [e3,Nat.mod_mul_right_div_self]
 have e4:(2:Nat)^(32-2*(i%16))=4*2^(30-2*(i%16)):=by
  rw [show (4:Nat)=2^2 from rfl,←Nat.pow_add];congr 1;omega
 rw [e4,Nat.mod_mul_right_mod]
theorem sq_next {X i p:Nat}(hp:p=X/4^i%4):X/4^i=4*(X/4^(i+1))+p:=by
 rw [Nat.pow_succ,←Nat.div_div_eq_div_mul,hp]
 omega
theorem sq_zero {P s R p:Nat}(h:IsRoot P 2 s) (hR:R+s*s=P) (hlt:R*4+p<4*s+1):IsRoot (4*P+p) 2 (2*s)∧R*4+p+2*s*(2*s)=4*P+p:=by
 have e:2*s*(2*s)=4*(s*s):=by grind
 refine⟨⟨by rw [Nat.pow_two];omega,?_⟩,by omega⟩
 have e2:(2*s+1)^2=4*(s*s)+4*s+1:=by grind
 rw [e2];omega
theorem sq_one {P s R p:Nat}(h:IsRoot P 2 s) (hp:p<4) (hR:R+s*s=P) (hlt:¬R*4+p<4*s+1):IsRoot (4*P+p) 2 (2*s+1)∧(R*4+p-(4*s+1))+(2*s+1)*(2*s+1)=4*P+p:=by
 have e:(2*s+1)*(2*s+1)=4*(s*s)+4*s+1:=by grind
 refine⟨⟨by rw [Nat.pow_two];omega,?_⟩,by omega⟩
 have h2:=h.2
 have e2:(2*s+1+1)^2=4*(s+1)^2:=by grind
 rw [e2];omega
theorem sq_rest {P s R:Nat}(h:IsRoot P 2 s) (hR:R+s*s=P):R≤2*s:=by
 have h2:=h.2
 have e2:(s+1)^2=s*s+2*s+1:=by grind
 rw [e2] at h2;omega
theorem dbl_step {b c x d d' q i:Nat}{l l':List Nat}(h:nb b (l'.take i)+b^i*c=nb b (l.take i)*2+q) (hi:i<l'.length) (hi2:i<l.length) (hx:l.getD i 0=x) (hd:d+b*d'=2*x+c):
  nb b ((l'.set i d).take (i+1))+b^(i+1)*d'=nb b (l.take (i+1))*2+q:=by
 rw [nb_set_snoc b hi,nb_take_snoc b l i hi2,hx,Nat.pow_succ,Nat.mul_assoc,Nat.add_assoc,←Nat.mul_add,hd,Nat.mul_add,Nat.add_mul]
 have e:b^i*(2*x)=b^i*x*2:=by grind
 omega
theorem dbl_done {l l':List Nat}{N c q:Nat}(hl:l.length=N) (hl':l'.length=N) (h:nb 4294967296 (l'.take N)+4294967296^N*c=nb 4294967296 (l.take N)*2+q) (hb:nb 4294967296 l*2+q<4294967296^N):nb 4294967296 l'=nb 4294967296 l*2+q:=by
 rw [List.take_of_length_le (by omega),List.take_of_length_le (by omega)] at h
 have hc:c=0:=by
  refine Nat.eq_zero_of_not_pos fun hp=>?_
  have h3:4294967296^N*1≤4294967296^N*c:=Nat.mul_le_mul_left _ hp
  omega
 rw [hc,Nat.mul_zero,Nat.add_zero] at h
 exact h
theorem ref3_below' {w:World}{A D:Option Addr}{n cap m cd X Y:Nat}{b:Bool}(hx:Rd w A n cap (db 4294967296 X)) (hln:n≤274877906944) (hy:Rd w D m cd (db 4294967296 Y)) (hlm:m≤274877906944) (hb:decide (X<Y)=b):
  Calls Try.prog 90 #[.slice A n cap,.slice D m cd] w (Gv w (Is (.bool b))):=hb▸ref3_below hx hln hy hlm
set_option maxHeartbeats 4000000 in
theorem ref3_Sqrt {w:World}{A:Option Addr}{n cap:Nat}{xs:List Nat}(hx:Rd w A n cap xs) (hln:n≤137438953472):
    Calls Try.prog 63 #[.slice A n cap] w (fun e w'=>∃r,IsRoot (nv xs) 2 r∧Gv w (T2 (WR w.heap.size r) (WR w.heap.size (nv xs-r*r))) e w'):=by
 refine sx_enter Try.func63 rfl (n:=90) rfl (bq rfl) (args:= [.slice A n cap]) (cw_keep [(0,.slice A n cap)] ⟨rfl,trivial⟩ (sr (mv 2 rfl (ne_ (sr (mv 1 rfl (cl (vs:= [.slice A n cap]) (Ext.refl w) (ref3_halves hx (by omega)) rfl (by kernel_rfl) fun xr3 v1 r3 e2 hw1=>?_)))))))
 obtain⟨A4,n4,c4,rfl,rd4⟩:=r3
 refine mv 1 rfl (ne_ (cw_seq ?_))
 have hld:=rd4.len
 have hdl:=rd4.hl hx (Nat.le_refl _)
 have hXL:nv xs<4294967296^n4:=by have h:=nb_lt (Wfb_db b32 (nv xs));rwa [nb_db b32,hld] at h
 refine cw_region (mv 1 rfl (pu (v:= .int .i64 ((n4:Nat):Int)) rfl (by kernel_rfl) (wl_ar rfl rfl rfl ((n4/2:Nat):Int) (ai_quo (a:=n4) (b:=2) rfl rfl (by omega) (by omega)) (by decide) (wl_ar rfl rfl rfl (((n4/2)+2:Nat):Int) (ai_add (a:=n4/2) (b:=2) rfl rfl (by omega)) (by decide) (mv 1 rfl (ne_ (sr (mv 1 rfl (wl_make rfl (k:=(n4/2)+2) rfl rfl rfl un_u64 info64 rfl (by decide) (by omega) (by decide) fun g5 v6 hg7 hb8 e9=>?_)))))))))
 rw [replicate_W64] at hb8
 have ge10:w.heap.size≤g5:=by rw [←hg7];exact hw1.size
 have ne12:0<cap→∀a,A=some a→a.block≠g5:=fun hc a ha=>by have:=((hx.ext e2)).rv.blk a ha hc;omega
 have ne13:0<c4→∀a,A4=some a→a.block≠g5:=fun hc a ha=>by have:=(rd4).rv.blk a ha hc;omega
 clear hg7
 have hw2:=hw1.trans e9
 refine mv 1 rfl (ne_ (sr (mv 1 rfl (wl_make rfl (k:=(n4/2)+2) rfl rfl rfl un_u64 info64 rfl (by decide) (by omega) (by decide) fun g14 v15 hg16 hb17 e18=>?_))))
 rw [replicate_W64] at hb17
 have ge19:w.heap.size≤g14:=by rw [←hg16];exact hw2.size
 have q21:g5<g14:=by rw [←hg16];exact hb8.lt
 have ne22:0<cap→∀a,A=some a→a.block≠g14:=fun hc a ha=>by have:=((hx.ext (e2.trans e9))).rv.blk a ha hc;omega
 have ne23:0<c4→∀a,A4=some a→a.block≠g14:=fun hc a ha=>by have:=((rd4.ext e9)).rv.blk a ha hc;omega
 clear hg16
 have hw3:=hw2.trans e18
 refine mv 1 rfl (ne_ (cw_seq (sr (mv 1 rfl (pu (v:= .int .i64 ((n4:Nat):Int)) rfl (by kernel_rfl) (wl_ar rfl rfl rfl ((16*n4:Nat):Int) (ai_mul (a:=16) (b:=n4) rfl rfl (by omega)) (by decide) (wl_ar rfl rfl rfl (((16*n4:Nat):Int)-1) (ar_i64s rfl (by omega) (by omega)) (by decide) (mv 1 rfl (ne_ (cw_block ?_))))))))))
 have hq0:nv xs/4^(16*n4)=0:=Nat.div_eq_of_lt (by rw [show (4:Nat)=2^2 from rfl,←Nat.pow_mul,show 2*(16*n4)=32*n4 by omega,Nat.pow_mul];exact hXL)
 have hz0:nb 4294967296 (List.replicate ((n4/2)+2) 0)=0:=nb_zeros _ _
 refine cw_loop (T:=World×Nat×Int×List Nat×List Nat)
  (fun⟨wr,k,ii,lr,ls⟩=> [(4,.slice A4 n4 c4),(5,.int .i64 (((n4/2)+2:Nat):Int)),(6,.slice (some ⟨g5,0,none⟩) ((n4/2)+2) ((n4/2)+2)),(7,.slice (some ⟨g14,0,none⟩) ((n4/2)+2) ((n4/2)+2)),(8,.int .i64 ii)])
  (fun⟨wr,k,ii,lr,ls⟩=>wr)
  (fun⟨wr,k,ii,lr,ls⟩=>(Ext w wr)∧(k≤16*n4)∧(ii=(k:Int)-1)∧(Bk wr g5 24 (lr.map W64))∧(lr.length=((n4/2)+2))∧(Wfb 4294967296 lr)∧(Bk wr g14 24 (ls.map W64))∧(ls.length=((n4/2)+2))∧(Wfb 4294967296 ls)∧(IsRoot (nv xs/4^k) 2 (nb 4294967296 ls))∧(nb 4294967296 lr+nb 4294967296 ls*nb 4294967296 ls=nv xs/4^k)∧(Rd wr A4 n4 c4 (db 4294967296 (nv xs))))
  (fun⟨wr,k,ii,lr,ls⟩=>k)
  (⟨v15,16*n4,_,_,_⟩:World×Nat×Int×List Nat×List Nat) ⟨hw3,Nat.le_refl _,(by omega),(hb8.ext e18),(List.length_replicate (n:=(n4/2)+2) (a:=0)),(Wfb_zeros (by decide) _),hb17,(List.length_replicate (n:=(n4/2)+2) (a:=0)),(Wfb_zeros (by decide) _),(by rw [hq0,hz0];exact IsRoot.zero (by decide)),(by rw [hq0,hz0]),(rd4.ext (e9.trans e18))⟩ rfl ⟨rfl,rfl,rfl,rfl,rfl,trivial⟩ ?_
 rintro⟨wr,k,ii,lr,ls⟩ ⟨hw1,hk,hii,hbr,hlr,hwr,hbs,hls,hws,hI,hR,rl4⟩
 refine cw_re [(4,.slice A4 n4 c4),(5,.int .i64 (((n4/2)+2:Nat):Int)),(6,.slice (some ⟨g5,0,none⟩) ((n4/2)+2) ((n4/2)+2)),(7,.slice (some ⟨g14,0,none⟩) ((n4/2)+2) ((n4/2)+2)),(8,.int .i64 ii)] wr rfl ⟨rfl,rfl,rfl,rfl,rfl,trivial⟩ (cw_seq (cw_seq ?_))
 by_cases hk0:0<k
 · 
  obtain⟨j,rfl⟩:∃j,k=j+1:=⟨k-1,by omega⟩
  obtain rfl:ii=(j:Int):=by omega
  refine cw_region (mv 1 rfl (wl_cmp rfl rfl rfl true (cb_ge_t (a:=j) (b:=0) rfl rfl (by omega)) (by decide) (ne_ (cw_true rfl (cw_skip (eo_then (cw_seq (cw_block (cw_seq ?_)))))))))
  have hss:nb 4294967296 ls*nb 4294967296 ls≤nv xs:=Nat.le_trans (Nat.le_trans (Nat.le_add_left _ _) (Nat.le_of_eq hR)) (Nat.div_le_self _ _)
  have hsm8:=sq_small hXL rfl hss
  have hrr:=sq_rest hI hR
  have hdb:=Wfb_getD (b:=4294967296) (by decide) (Wfb_db b32 (nv xs)) (j/16)
  have hpr:=sq_pair (X:=nv xs) (i:=j)
  have hnx:=sq_next hpr
  have hp4:(db 4294967296 (nv xs)).getD (j/16) 0/2^(2*(j%16))%4<4:=Nat.mod_lt _ (by decide)
  have hdv:(db 4294967296 (nv xs)).getD (j/16) 0/2^(2*(j%16))≤4294967295:=Nat.le_trans (Nat.div_le_self _ _) (by omega)
  refine cw_region (mv 2 rfl (wl_ar rfl rfl rfl ((j/16:Nat):Int) (ai_quo (a:=j) (b:=16) rfl rfl (by omega) (by omega)) (by decide) ?_))
  obtain⟨p24,hp24,hc24,hv24⟩:=(rl4).at (i:=j/16) (by omega)
  refine wl_idx rfl rfl rfl un_u64 sz_u64 (j/16) rfl (by omega) p24 hp24 (by decide) (wl_load rfl rfl (load_cell1 ag_u64 hc24) (by decide) (mv 1 rfl (wl_ar rfl rfl rfl ((j%16:Nat):Int) (au_rem (a:=j) (b:=16) rfl rfl (by omega)) (by decide) (wl_ar rfl rfl rfl ((2*(j%16):Nat):Int) (ai_mul (a:=2) (b:=j%16) rfl rfl (by omega)) (by decide) (wl_pureE rfl rfl (v:= .int .u64 (IntKind.u64.wrap ((2*(j%16):Nat):Int))) (v':= .int .u64 ((2*(j%16):Nat):Int)) (by decide) (by kernel_rfl) (cv_u64 (by first | omega | exact (by omega))) (wl_op rfl rfl rfl (r:= .int .u64 ((((db 4294967296 (nv xs)).getD (j/16) 0)/2^(2*(j%16)):Nat):Int)) rfl (fun w=>u64_shr (x:=(db 4294967296 (nv xs)).getD (j/16) 0) (s:=2*(j%16)) (by omega) _ _ w) (by decide) (wl_ar rfl rfl rfl (((((db 4294967296 (nv xs)).getD (j/16) 0)/2^(2*(j%16)))%4:Nat):Int) (au_rem (a:=((db 4294967296 (nv xs)).getD (j/16) 0)/2^(2*(j%16))) (b:=4) rfl rfl (by omega)) (by decide) (mv 1 rfl (ne_ (cw_seq ?_))))))))))
  obtain⟨p,hpd⟩:∃p,(((db 4294967296 (nv xs)).getD (j/16) 0)/2^(2*(j%16)))%4=p:=⟨_,rfl⟩
  rw [hpd] at hpr hnx hp4
  have hpd2:(((((db 4294967296 (nv xs)).getD (j/16) 0)/2^(2*(j%16)))%4:Nat):Int)=(p:Int):=by rw [hpd]
  refine cw_region (mv 2 rfl (wl_call rfl rfl (vs:= [.slice (some ⟨g5,0,none⟩) ((n4/2)+2) ((n4/2)+2),.int .u64 (((((db 4294967296 (nv xs)).getD (j/16) 0)/2^(2*(j%16)))%4:Nat):Int)]) (by kernel_rfl) (by decide) (ref3_push (q:=(((db 4294967296 (nv xs)).getD (j/16) 0)/2^(2*(j%16)))%4) hbr hlr (by omega) hwr (by rw [hpd];omega) (by rw [hpd];omega)) ?_))
  rintro _ v25 ⟨rfl,u26,l29,hb27,hl28,wf30,hv31⟩
  refine ret_intro ?_
  have hw2:=u26.ext hw1 ge10
  refine ne_ (sr (mv 1 rfl (wl_make rfl (k:=(n4/2)+2) rfl rfl rfl un_u64 info64 rfl (by decide) (by omega) (by decide) fun g32 v33 hg34 hb35 e36=>?_)))
  rw [replicate_W64] at hb35
  have ge37:w.heap.size≤g32:=by rw [←hg34];exact hw2.size
  have q39:g5<g32:=by rw [←hg34];exact hb27.lt
  have q40:g14<g32:=by rw [←hg34];exact (hbs.updN u26 (by omega)).lt
  have ne41:0<c4→∀a,A4=some a→a.block≠g32:=fun hc a ha=>by have:=((Rd.updL rl4 u26 ne13)).rv.blk a ha hc;omega
  clear hg34
  have hw3:=hw2.trans e36
  refine mv 1 rfl (ne_ (sr (mv 2 rfl (wl_copy rfl rfl Try.underlying22 (by kernel_rfl) hb35 (((hbs.updN u26 (by omega)).ext e36).rd0 hws.wf hls (by omega)).rv (fun _=>rfl) (by rw [List.length_map,(List.length_replicate (n:=(n4/2)+2) (a:=0))];omega) one_W64' (by decide) fun v42 hb44 u45=>?_))))
  rw [copy_all (List.length_replicate (n:=(n4/2)+2) (a:=0)) hls] at hb44
  have hw4:=u45.ext hw3 ge37
  refine ne_ (cw_seq ?_)
  rw [hpd] at hv31
  refine cw_region (mv 1 rfl (wl_call rfl rfl (vs:= [.slice (some ⟨g32,0,none⟩) ((n4/2)+2) ((n4/2)+2),.int .u64 1]) (by kernel_rfl) (by decide) (ref3_push (q:=1) hb44 hls (by omega) hws (by decide) (by omega)) ?_))
  rintro _ v46 ⟨rfl,u47,l50,hb48,hl49,wf51,hv52⟩
  refine ret_intro ?_
  have hw5:=u47.ext hw4 ge37
  refine ne_ (sr (mv 1 rfl (ne_ (cw_seq ?_))))
  by_cases hlt:nb 4294967296 l29<nb 4294967296 l50
  · 
   have hlt2:nb 4294967296 lr*4+p<4*nb 4294967296 ls+1:=by omega
   have hS:=sq_zero hI hR hlt2
   refine cw_region (mv 1 rfl (cl (vs:= [.slice (some ⟨g5,0,none⟩) ((n4/2)+2) ((n4/2)+2)]) hw5 (ref3_Trim ((((hb27.ext e36).updN u45 (by omega)).updN u47 (by omega)).rd0 wf30.wf hl28 (by omega)) (by omega)) rfl (by kernel_rfl) fun xr55 v53 r55 e54 hw6=>?_))
   obtain⟨k56,rfl,hk56,ht56,hv56⟩:=r55
   refine mv 1 rfl (cl (vs:= [.slice (some ⟨g32,0,none⟩) ((n4/2)+2) ((n4/2)+2)]) hw6 (ref3_Trim ((hb48.ext e54).rd0 wf51.wf hl49 (by omega)) (by omega)) rfl (by kernel_rfl) fun xr59 v57 r59 e58 hw7=>?_)
   obtain⟨k60,rfl,hk60,ht60,hv60⟩:=r59
   refine cl (vs:= [.slice (some ⟨g5,0,none⟩) k56 ((n4/2)+2),.slice (some ⟨g32,0,none⟩) k60 ((n4/2)+2)]) hw7 (ref3_below' (b:=true) ((((((hb27.ext e36).updN u45 (by omega)).updN u47 (by omega)).ext (e54.trans e58)).rd0 wf30.wf hl28 (by omega)).trim wf30 hk56 ht56 hv56) (by omega) (((hb48.ext (e54.trans e58)).rd0 wf51.wf hl49 (by omega)).trim wf51 hk60 ht60 hv60) (by omega) (by rw [decide_eq_true hlt])) rfl (by kernel_rfl) fun xr63 v61 r63 e62 hw8=>?_
   obtain rfl:=r63
   refine mv 1 rfl (ne_ (cw_seq (sr (mv 1 rfl (pu (v:= .bool false) rfl (by kernel_rfl) (ne_ (cw_false rfl (cw_skip (eo_then (sr (mv 2 rfl (ne_ (cw_seq ?_)))))))))))))
   refine cw_region (mv 1 rfl (ne_ (cw_block ?_)))
   refine cw_loop (T:=World×Nat×Nat×List Nat)
    (fun⟨wr2,j2,c,l2⟩=> [(4,.slice A4 n4 c4),(5,.int .i64 (((n4/2)+2:Nat):Int)),(6,.slice (some ⟨g5,0,none⟩) ((n4/2)+2) ((n4/2)+2)),(7,.slice (some ⟨g14,0,none⟩) ((n4/2)+2) ((n4/2)+2)),(8,.int .i64 ((j:Nat):Int)),(13,.int .u64 ((c:Nat):Int)),(14,.int .i64 ((j2:Nat):Int))])
    (fun⟨wr2,j2,c,l2⟩=>wr2)
    (fun⟨wr2,j2,c,l2⟩=>(Ext w wr2)∧(j2≤((n4/2)+2))∧(c≤1)∧(Bk wr2 g5 24 (l29.map W64))∧(Bk wr2 g14 24 (l2.map W64))∧(l2.length=((n4/2)+2))∧(Wfb 4294967296 l2)∧(∀q,j2≤q→l2.getD q 0=ls.getD q 0)∧(nb 4294967296 (l2.take j2)+4294967296^j2*c=nb 4294967296 (ls.take j2)*2+0)∧(Rd wr2 A4 n4 c4 (db 4294967296 (nv xs))))
    (fun⟨wr2,j2,c,l2⟩=>((n4/2)+2)-j2)
    (⟨v61,0,0,ls⟩:World×Nat×Nat×List Nat) ⟨hw8,(Nat.zero_le _),(by decide),((((hb27.ext e36).updN u45 (by omega)).updN u47 (by omega)).ext (e54.trans (e58.trans e62))),(((((hbs.updN u26 (by omega)).ext e36).updN u45 (by omega)).updN u47 (by omega)).ext (e54.trans (e58.trans e62))),hls,hws,(fun _ _=>rfl),(by simp [nb]),((Rd.updL (Rd.updL ((Rd.updL rl4 u26 ne13).ext e36) u45 ne41) u47 ne41).ext (e54.trans (e58.trans e62)))⟩ rfl ⟨rfl,rfl,rfl,rfl,rfl,rfl,rfl,trivial⟩ ?_
   rintro⟨wr2,j2,c,l2⟩ ⟨hw1,hj2,hc,hbr2,hbs2,hl2,hwq,hsm,hv2,rl4⟩
   refine cw_re [(4,.slice A4 n4 c4),(5,.int .i64 (((n4/2)+2:Nat):Int)),(6,.slice (some ⟨g5,0,none⟩) ((n4/2)+2) ((n4/2)+2)),(7,.slice (some ⟨g14,0,none⟩) ((n4/2)+2) ((n4/2)+2)),(8,.int .i64 ((j:Nat):Int)),(13,.int .u64 ((c:Nat):Int)),(14,.int .i64 ((j2:Nat):Int))] wr2 rfl ⟨rfl,rfl,rfl,rfl,rfl,rfl,rfl,trivial⟩ (cw_seq (cw_seq ?_))
   by_cases hjn:j2<(n4/2)+2
   · 
    refine cw_region (mv 2 rfl (wl_cmp rfl rfl rfl true (cb_lt_t (a:=j2) (b:=(n4/2)+2) rfl rfl (by omega)) (by decide) (ne_ (cw_true rfl (cw_skip (eo_then (cw_seq (cw_block (cw_seq ?_)))))))))
    have hd:=Wfb_getD (b:=4294967296) (by decide) hwq j2
    refine cw_region (mv 2 rfl (wl_idx rfl rfl rfl un_u64 sz_u64 j2 rfl (by omega) ⟨g14,j2,none⟩ (arr_at _ _) (by decide) (wl_load rfl rfl (load_word ag_u64 hbs2 (by rw [hl2];omega)) (by decide) (wl_ar rfl rfl rfl ((2*(l2.getD j2 0):Nat):Int) (au_mul (a:=2) (b:=l2.getD j2 0) rfl rfl (by omega)) (by decide) (mv 1 rfl (wl_ar rfl rfl rfl (((2*(l2.getD j2 0))+c:Nat):Int) (au_add (a:=2*(l2.getD j2 0)) (b:=c) rfl rfl (by omega)) (by decide) (mv 1 rfl (ne_ (sr (mv 3 rfl (wl_ar rfl rfl rfl ((((2*(l2.getD j2 0))+c)%4294967296:Nat):Int) (au_rem (a:=(2*(l2.getD j2 0))+c) (b:=4294967296) rfl rfl (by omega)) (by decide) (wl_idx rfl rfl rfl un_u64 sz_u64 j2 rfl (by omega) ⟨g14,j2,none⟩ (arr_at _ _) (by decide) ?_))))))))))))
    have hb65:=hbs2
    refine wl_stored1 rfl rfl rfl sz_u64 rfl hb65 (len_map (by rw [hl2];omega)) rfl ((l2.set j2 (((2*(l2.getD j2 0))+c)%4294967296)).map W64) (map_W64_set _ _ _) fun v64 hb66 u67 hs68=>?_
    have hw2:=u67.ext hw1 ge19
    refine ne_ (cw_region (mv 1 rfl (wl_ar rfl rfl rfl ((((2*(l2.getD j2 0))+c)/4294967296:Nat):Int) (au_quo (a:=(2*(l2.getD j2 0))+c) (b:=4294967296) rfl rfl (by omega) (by omega)) (by decide) (mv 1 rfl (wl_nil (eo_block_normal (eo_then (cw_region (mv 1 rfl (wl_ar rfl rfl rfl ((j2+1:Nat):Int) (ai_add (a:=j2) (b:=1) rfl rfl (by omega)) (by decide) (mv 1 rfl (wl_nil (eo_round (⟨v64,j2+1,_,_⟩:World×Nat×Nat×List Nat) ⟨hw2,(by omega),(by omega),(hbr2.updN u67 (by omega)),hb66,(len_set (l:=l2) (hl2)),Wfb_set hwq _ (Nat.mod_lt _ (by decide)),(push_same hsm),(dbl_step hv2 (by omega) (by omega) (hsm j2 (Nat.le_refl _)).symm (Nat.mod_add_div _ _)),(Rd.updL rl4 u67 ne23)⟩ (show ((n4/2)+2)-(j2+1)<((n4/2)+2)-j2 by omega) rfl ⟨rfl,rfl,rfl,rfl,rfl,rfl,rfl,trivial⟩)))))))))))))
   · 
    have hje:j2=((n4/2)+2):=by omega
    rw [hje] at hv2
    have hdbl:nb 4294967296 l2=2*nb 4294967296 ls:=by have h:=dbl_done hls hl2 hv2 (by omega);omega
    refine cw_region (mv 2 rfl (wl_cmp rfl rfl rfl false (cb_lt_f (a:=j2) (b:=(n4/2)+2) rfl rfl (by omega)) (by decide) (ne_ (cw_false rfl (cw_exit (eo_thenX (eo_loopX (eo_block_here (eo_block_normal (eo_then (cw_region (mv 1 rfl (wl_ar rfl rfl rfl (((j:Nat):Int)-1) (ar_i64s rfl (by omega) (by omega)) (by decide) ?_)))))))))))))
    refine mv 1 rfl (wl_nil (eo_round (⟨wr2,j,_,_,_⟩:World×Nat×Int×List Nat×List Nat) ⟨hw1,(by omega),rfl,hbr2,hl28,wf30,hbs2,hl2,hwq,(by rw [hdbl,hnx];exact hS.1),(by rw [hdbl,hnx,hv31];exact hS.2),rl4⟩ (show j<j+1 by omega) rfl ⟨rfl,rfl,rfl,rfl,rfl,trivial⟩))
  · 
   have hlt2:¬nb 4294967296 lr*4+p<4*nb 4294967296 ls+1:=by omega
   have hS:=sq_one hI hp4 hR hlt2
   refine cw_region (mv 1 rfl (cl (vs:= [.slice (some ⟨g5,0,none⟩) ((n4/2)+2) ((n4/2)+2)]) hw5 (ref3_Trim ((((hb27.ext e36).updN u45 (by omega)).updN u47 (by omega)).rd0 wf30.wf hl28 (by omega)) (by omega)) rfl (by kernel_rfl) fun xr71 v69 r71 e70 hw6=>?_))
   obtain⟨k72,rfl,hk72,ht72,hv72⟩:=r71
   refine mv 1 rfl (cl (vs:= [.slice (some ⟨g32,0,none⟩) ((n4/2)+2) ((n4/2)+2)]) hw6 (ref3_Trim ((hb48.ext e70).rd0 wf51.wf hl49 (by omega)) (by omega)) rfl (by kernel_rfl) fun xr75 v73 r75 e74 hw7=>?_)
   obtain⟨k76,rfl,hk76,ht76,hv76⟩:=r75
   refine cl (vs:= [.slice (some ⟨g5,0,none⟩) k72 ((n4/2)+2),.slice (some ⟨g32,0,none⟩) k76 ((n4/2)+2)]) hw7 (ref3_below' (b:=false) ((((((hb27.ext e36).updN u45 (by omega)).updN u47 (by omega)).ext (e70.trans e74)).rd0 wf30.wf hl28 (by omega)).trim wf30 hk72 ht72 hv72) (by omega) (((hb48.ext (e70.trans e74)).rd0 wf51.wf hl49 (by omega)).trim wf51 hk76 ht76 hv76) (by omega) (by rw [decide_eq_false hlt])) rfl (by kernel_rfl) fun xr79 v77 r79 e78 hw8=>?_
   obtain rfl:=r79
   refine mv 1 rfl (ne_ (cw_seq (sr (mv 1 rfl (pu (v:= .bool true) rfl (by kernel_rfl) (ne_ (cw_true rfl (sr (mv 2 rfl (cl (vs:= [.slice (some ⟨g32,0,none⟩) ((n4/2)+2) ((n4/2)+2)]) hw8 (ref3_Trim ((hb48.ext (e70.trans (e74.trans e78))).rd0 wf51.wf hl49 (by omega)) (by omega)) rfl (by kernel_rfl) fun xr82 v80 r82 e81 hw9=>?_))))))))))
   obtain⟨k83,rfl,hk83,ht83,hv83⟩:=r82
   have hvt:=hv83 4294967296
   refine wl_call rfl rfl (vs:= [.slice (some ⟨g5,0,none⟩) ((n4/2)+2) ((n4/2)+2),.slice (some ⟨g32,0,none⟩) k83 ((n4/2)+2),.int .u64 1,I0]) (by kernel_rfl) (by decide) (ref3_takeOff (q:=1) (s:=0) ((((hb27.ext e36).updN u45 (by omega)).updN u47 (by omega)).ext (e70.trans (e74.trans (e78.trans e81)))) hl28 (by omega) wf30 (((hb48.ext (e70.trans (e74.trans (e78.trans e81)))).rd0 wf51.wf hl49 (by omega)).take (k:=k83) (by omega) (by omega) (Nat.le_refl _)) (Wfb_take wf51 _) (fun _ a ha=>by cases ha;show g32≠g5;omega) (by decide) (by omega) (by rw [hvt,Nat.pow_zero];omega)) ?_
   rintro _ v84 ⟨rfl,u85,l88,hb86,hl87,wf89,hv90⟩
   refine ret_intro ?_
   rw [hvt,Nat.pow_zero,Nat.mul_one,Nat.one_mul] at hv90
   have hw10:=u85.ext hw9 ge10
   have hvr:nb 4294967296 l88=nb 4294967296 lr*4+p-(4*nb 4294967296 ls+1):=by omega
   refine ne_ (cw_region (mv 1 rfl (ne_ (sr (mv 2 rfl (ne_ (sr (mv 1 rfl (ne_ (cw_block ?_))))))))))
   refine cw_loop (T:=World×Nat×Nat×List Nat)
    (fun⟨wr2,j2,c,l2⟩=> [(4,.slice A4 n4 c4),(5,.int .i64 (((n4/2)+2:Nat):Int)),(6,.slice (some ⟨g5,0,none⟩) ((n4/2)+2) ((n4/2)+2)),(7,.slice (some ⟨g14,0,none⟩) ((n4/2)+2) ((n4/2)+2)),(8,.int .i64 ((j:Nat):Int)),(13,.int .u64 ((c:Nat):Int)),(14,.int .i64 ((j2:Nat):Int))])
    (fun⟨wr2,j2,c,l2⟩=>wr2)
    (fun⟨wr2,j2,c,l2⟩=>(Ext w wr2)∧(j2≤((n4/2)+2))∧(c≤1)∧(Bk wr2 g5 24 (l88.map W64))∧(Bk wr2 g14 24 (l2.map W64))∧(l2.length=((n4/2)+2))∧(Wfb 4294967296 l2)∧(∀q,j2≤q→l2.getD q 0=ls.getD q 0)∧(nb 4294967296 (l2.take j2)+4294967296^j2*c=nb 4294967296 (ls.take j2)*2+1)∧(Rd wr2 A4 n4 c4 (db 4294967296 (nv xs))))
    (fun⟨wr2,j2,c,l2⟩=>((n4/2)+2)-j2)
    (⟨v84,0,1,ls⟩:World×Nat×Nat×List Nat) ⟨hw10,(Nat.zero_le _),(by decide),hb86,((((((hbs.updN u26 (by omega)).ext e36).updN u45 (by omega)).updN u47 (by omega)).ext (e70.trans (e74.trans (e78.trans e81)))).updN u85 (by omega)),hls,hws,(fun _ _=>rfl),(by simp [nb]),(Rd.updL ((Rd.updL (Rd.updL ((Rd.updL rl4 u26 ne13).ext e36) u45 ne41) u47 ne41).ext (e70.trans (e74.trans (e78.trans e81)))) u85 ne13)⟩ rfl ⟨rfl,rfl,rfl,rfl,rfl,rfl,rfl,trivial⟩ ?_
   rintro⟨wr2,j2,c,l2⟩ ⟨hw1,hj2,hc,hbr2,hbs2,hl2,hwq,hsm,hv2,rl4⟩
   refine cw_re [(4,.slice A4 n4 c4),(5,.int .i64 (((n4/2)+2:Nat):Int)),(6,.slice (some ⟨g5,0,none⟩) ((n4/2)+2) ((n4/2)+2)),(7,.slice (some ⟨g14,0,none⟩) ((n4/2)+2) ((n4/2)+2)),(8,.int .i64 ((j:Nat):Int)),(13,.int .u64 ((c:Nat):Int)),(14,.int .i64 ((j2:Nat):Int))] wr2 rfl ⟨rfl,rfl,rfl,rfl,rfl,rfl,rfl,trivial⟩ (cw_seq (cw_seq ?_))
   by_cases hjn:j2<(n4/2)+2
   · 
    refine cw_region (mv 2 rfl (wl_cmp rfl rfl rfl true (cb_lt_t (a:=j2) (b:=(n4/2)+2) rfl rfl (by omega)) (by decide) (ne_ (cw_true rfl (cw_skip (eo_then (cw_seq (cw_block (cw_seq ?_)))))))))
    have hd:=Wfb_getD (b:=4294967296) (by decide) hwq j2
    refine cw_region (mv 2 rfl (wl_idx rfl rfl rfl un_u64 sz_u64 j2 rfl (by omega) ⟨g14,j2,none⟩ (arr_at _ _) (by decide) (wl_load rfl rfl (load_word ag_u64 hbs2 (by rw [hl2];omega)) (by decide) (wl_ar rfl rfl rfl ((2*(l2.getD j2 0):Nat):Int) (au_mul (a:=2) (b:=l2.getD j2 0) rfl rfl (by omega)) (by decide) (mv 1 rfl (wl_ar rfl rfl rfl (((2*(l2.getD j2 0))+c:Nat):Int) (au_add (a:=2*(l2.getD j2 0)) (b:=c) rfl rfl (by omega)) (by decide) (mv 1 rfl (ne_ (sr (mv 3 rfl (wl_ar rfl rfl rfl ((((2*(l2.getD j2 0))+c)%4294967296:Nat):Int) (au_rem (a:=(2*(l2.getD j2 0))+c) (b:=4294967296) rfl rfl (by omega)) (by decide) (wl_idx rfl rfl rfl un_u64 sz_u64 j2 rfl (by omega) ⟨g14,j2,none⟩ (arr_at _ _) (by decide) ?_))))))))))))
    have hb92:=hbs2
    refine wl_stored1 rfl rfl rfl sz_u64 rfl hb92 (len_map (by rw [hl2];omega)) rfl ((l2.set j2 (((2*(l2.getD j2 0))+c)%4294967296)).map W64) (map_W64_set _ _ _) fun v91 hb93 u94 hs95=>?_
    have hw2:=u94.ext hw1 ge19
    refine ne_ (cw_region (mv 1 rfl (wl_ar rfl rfl rfl ((((2*(l2.getD j2 0))+c)/4294967296:Nat):Int) (au_quo (a:=(2*(l2.getD j2 0))+c) (b:=4294967296) rfl rfl (by omega) (by omega)) (by decide) (mv 1 rfl (wl_nil (eo_block_normal (eo_then (cw_region (mv 1 rfl (wl_ar rfl rfl rfl ((j2+1:Nat):Int) (ai_add (a:=j2) (b:=1) rfl rfl (by omega)) (by decide) (mv 1 rfl (wl_nil (eo_round (⟨v91,j2+1,_,_⟩:World×Nat×Nat×List Nat) ⟨hw2,(by omega),(by omega),(hbr2.updN u94 (by omega)),hb93,(len_set (l:=l2) (hl2)),Wfb_set hwq _ (Nat.mod_lt _ (by decide)),(push_same hsm),(dbl_step hv2 (by omega) (by omega) (hsm j2 (Nat.le_refl _)).symm (Nat.mod_add_div _ _)),(Rd.updL rl4 u94 ne23)⟩ (show ((n4/2)+2)-(j2+1)<((n4/2)+2)-j2 by omega) rfl ⟨rfl,rfl,rfl,rfl,rfl,rfl,rfl,trivial⟩)))))))))))))
   · 
    have hje:j2=((n4/2)+2):=by omega
    rw [hje] at hv2
    have hdbl:nb 4294967296 l2=2*nb 4294967296 ls+1:=by have h:=dbl_done hls hl2 hv2 (by omega);omega
    refine cw_region (mv 2 rfl (wl_cmp rfl rfl rfl false (cb_lt_f (a:=j2) (b:=(n4/2)+2) rfl rfl (by omega)) (by decide) (ne_ (cw_false rfl (cw_exit (eo_thenX (eo_loopX (eo_block_here (eo_block_normal (eo_then (cw_region (mv 1 rfl (wl_ar rfl rfl rfl (((j:Nat):Int)-1) (ar_i64s rfl (by omega) (by omega)) (by decide) ?_)))))))))))))
    refine mv 1 rfl (wl_nil (eo_round (⟨wr2,j,_,_,_⟩:World×Nat×Int×List Nat×List Nat) ⟨hw1,(by omega),rfl,hbr2,hl87,wf89,hbs2,hl2,hwq,(by rw [hdbl,hnx];exact hS.1),(by rw [hdbl,hnx,hvr];exact hS.2),rl4⟩ (show j<j+1 by omega) rfl ⟨rfl,rfl,rfl,rfl,rfl,trivial⟩))
 · 
  obtain rfl:k=0:=by omega
  refine cw_region (mv 1 rfl (wl_cmp rfl rfl rfl false (ge_f (by omega)) (by decide) (ne_ (cw_false rfl (cw_exit (eo_thenX (eo_loopX (eo_block_here (eo_then (sr (mv 1 rfl (cl (vs:= [.slice (some ⟨g14,0,none⟩) ((n4/2)+2) ((n4/2)+2)]) hw1 (ref3_words (hbs.rd0 hws.wf hls (by omega)) (by omega) hws) rfl (by kernel_rfl) fun xr98 v96 r98 e97 hw2=>?_))))))))))))
  obtain⟨A99,n99,c99,rfl,j99,o99⟩:=r98
  refine mv 1 rfl (cl (vs:= [.slice (some ⟨g5,0,none⟩) ((n4/2)+2) ((n4/2)+2)]) hw2 (ref3_words ((hbr.ext e97).rd0 hwr.wf hlr (by omega)) (by omega) hwr) rfl (by kernel_rfl) fun xr102 v100 r102 e101 hw3=>?_)
  obtain⟨A103,n103,c103,rfl,j103,o103⟩:=r102
  refine mv 2 rfl (ne_ (cw_ret (eo_ret [.slice A99 n99 c99,.slice A103 n103 c103] rfl ⟨rfl,rfl,trivial⟩ ?_)))
  rw [Nat.pow_zero,Nat.div_one] at hI hR
  exact⟨_,hI,_,rfl,⟨_,_,rfl,⟨_,_,_,rfl,j99,((o99.ext e101)).mono hw1.size⟩,(by rw [show nv xs-nb 4294967296 ls*nb 4294967296 ls=nb 4294967296 lr by omega];exact⟨_,_,_,rfl,j103,(o103).mono hw2.size⟩)⟩,hw3⟩
theorem am_next {i k:Nat}:(if 2^i/2=0 then k else k/(2*(2^i/2)))=k/2^i:=by
 cases i with
 | zero=>simp
 | succ i=>
  have e:2^(i+1)/2=2^i:=by rw [Nat.pow_succ];exact Nat.mul_div_cancel _ (by omega)
  have h:=Nat.two_pow_pos i
  rw [e,if_neg (by omega),Nat.pow_succ,Nat.mul_comm 2]
theorem am_half {i:Nat}:2^i/2=0∨∃j,2^i/2=2^j:=by
 cases i with
 | zero=>exact Or.inl (by decide)
 | succ i=>exact Or.inr ⟨i,by rw [Nat.pow_succ];exact Nat.mul_div_cancel _ (by omega)⟩
theorem am_exp {S k i:Nat}:S^(k/2^i)=S^(k/(2*2^i))*S^(k/(2*2^i))*(if k/2^i%2=1 then S else 1):=by
 have:=pow_half (S:=S) (n:=k) (k:=i)
 rw [Nat.pow_succ,Nat.mul_comm (2^i) 2] at this
 exact this
theorem am_over {R k e Y:Nat}(he:1≤e) (hek:e≤k) (h:Y<R^e):¬R^k≤Y:=by
 by_cases h0:R=0
 ·subst h0;rw [Nat.zero_pow (by omega)] at h;omega
 ·have:=Nat.pow_le_pow_right (n:=R) (by omega) hek
  omega
theorem len_db_mul {x y:Nat}:(db 4294967296 (x*y)).length≤(db 4294967296 x).length+(db 4294967296 y).length:=by
 refine len_db_le b32 ?_
 rw [Nat.pow_add]
 have h1:=lt_pow_len_db b32 x
 have h2:=lt_pow_len_db b32 y
 exact Nat.mul_lt_mul'' h1 h2
theorem db_one:db 4294967296 1= [1]:=by rw [db_pos b32 (by decide)];rfl
theorem db_small {x:Nat}(h0:x≠0) (h:x<4294967296):db 4294967296 x= [x]:=by rw [db_pos b32 h0,Nat.mod_eq_of_lt h,Nat.div_eq_of_lt h,db_zero]
theorem one_rd {w:World}{b x:Nat}{A:Option Addr}(h:Own w b 24 1 A 1 1 [W64 x]) (h0:x≠0) (hx:x<4294967296):Rd w A 1 1 (db 4294967296 x):=by
 rw [db_small h0 hx]
 exact Own.rd (xs:= [x]) h (Wf_one (by rw [WB_def];omega))
theorem bern (x:Nat):∀j,j≤x→(x+1)^j*(x-j)≤x^j*x:=by
 intro j
 induction j with
 | zero=>intro _;simp
 | succ j ih=>
  intro h
  have h1:=Nat.mul_le_mul_right x (ih (by omega))
  obtain⟨d,rfl⟩:∃d,x=j+1+d:=⟨x-(j+1),by omega⟩
  rw [show j+1+d-(j+1)=d by omega]
  rw [show j+1+d-j=d+1 by omega] at h1
  have h2:(j+1+d+1)*d≤(d+1)*(j+1+d):=by
   have e:(j+1+d+1)*d+(j+1)=(d+1)*(j+1+d):=by grind
   omega
  have h3:=Nat.mul_le_mul_left ((j+1+d+1)^j) h2
  have e1:(j+1+d+1)^(j+1)*d=(j+1+d+1)^j*((j+1+d+1)*d):=by rw [Nat.pow_succ,Nat.mul_assoc]
  have e2:(j+1+d+1)^j*((d+1)*(j+1+d))=(j+1+d+1)^j*(d+1)*(j+1+d):=by rw [Nat.mul_assoc]
  have e3:(j+1+d)^(j+1)*(j+1+d)=(j+1+d)^j*(j+1+d)*(j+1+d):=by rw [Nat.pow_succ]
  rw [e1,e3];omega
theorem bern2 {x m:Nat}(h:2*m≤x):(x+1)^m≤2*x^m:=by
 by_cases h0:x=0
 ·obtain rfl:m=0:=by omega
  simp
 ·have h1:=bern x m (by omega)
  have h2:(x+1)^m*x≤(x+1)^m*(2*(x-m)):=Nat.mul_le_mul_left _ (by omega)
  have e1:(x+1)^m*(2*(x-m))=2*((x+1)^m*(x-m)):=by rw [Nat.mul_left_comm]
  have h3:(x+1)^m*x≤2*x^m*x:=by rw [Nat.mul_assoc];omega
  exact Nat.le_of_mul_le_mul_right h3 (by omega)
theorem nw_quo {X x m:Nat}(h:X<(x+1)^(m+1)) (hm:2*m≤x) (hx:0<x):X/x^m<2*(x+1):=by
 refine (Nat.div_lt_iff_lt_mul (Nat.pow_pos hx)).2 ?_
 have h1:=Nat.mul_le_mul_right (x+1) (bern2 hm)
 rw [Nat.pow_succ] at h
 have e:2*x^m*(x+1)=2*(x+1)*x^m:=by grind
 omega
theorem nw_low {X n k high x : Nat} (hX : 2 ^ (n - 1) ≤ X) (hk : 2 ≤ k) (hh : high = n / k) (hhk : k < high) (h : X < (x + 1) ^ k) : 2 * k ≤ x := by
  have h1 : (high - 1) * k ≤ n - 1 := by
    have h2 : high * k ≤ n := by rw [hh]; exact Nat.div_mul_le_self n k
    rw [Nat.sub_mul, Nat.one_mul]
    omega
  have h2 : (2 ^ (high - 1)) ^ k ≤ X := by rw [← Nat.pow_mul]; exact Nat.le_trans (Nat.pow_le_pow_right (by decide) h1) hX
  have h3 : 2 ^ (high - 1) < x + 1 := by
    refine Nat.lt_of_not_le fun h4 => ?_
    have := Nat.pow_le_pow_left h4 k
    omega
  have h4 : 2 ^ k ≤ 2 ^ (high - 1) := Nat.pow_le_pow_right (by decide) (by omega)
  have h5 : ∀ k, 1 ≤ k → 2 * k ≤ 2 ^ k := by
    intro k hk
    induction k with
    | zero => omega
    | succ k ih => by_cases h0 : k = 0
                   · subst h0; decide
                   · have := ih (by omega); rw [Nat.pow_succ]; omega
  have := h5 k (by omega)
  omega
set_option maxHeartbeats 4000000 in
theorem ref3_atMost {w:World}{A D:Option Addr}{n cap m cd R Y k:Nat}(hx:Rd w A n cap (db 4294967296 (R))) (hln:n≤1073741824) (hy:Rd w D m cd (db 4294967296 (Y))) (hlm:m≤1073741824) (hk1:1≤k) (hk2:k≤9223372036854775807):
    Calls Try.prog 96 #[.slice A n cap,.int .i64 ((k:Nat):Int),.slice D m cd] w (Gv w (Is (.bool (decide (R^k≤Y))))):=by
 refine sx_enter Try.func96 rfl (n:=36) rfl (bq rfl) (args:= [.slice A n cap,.int .i64 ((k:Nat):Int),.slice D m cd]) (cw_keep [(0,.slice A n cap),(1,.int .i64 ((k:Nat):Int)),(2,.slice D m cd)] ⟨rfl,rfl,rfl,trivial⟩ (sr (mv 1 rfl (ne_ (sr (wl_bslice rfl rfl (by decide) (k:=1) (e:=24) [.int .u64 1] (fun _=>by kernel_rfl) fun g1 v2 nb3=>?_))))))
 have o4:=O1.mk_ (x:=1) (b:=w.heap.size) nb3 (Ext.refl w).size
 have e5:=nb3.ext
 have hw1:=(Ext.refl w).trans e5
 refine mv 1 rfl (ne_ (cw_seq ?_))
 have rd8:=one_rd o4 (by decide) (by decide)
 refine cw_region (mv 1 rfl (ne_ (cw_seq (cw_block ?_))))
 refine cw_loop (T:=World×Nat)
  (fun⟨wr,bit⟩=> [(0,.slice A n cap),(1,.int .i64 ((k:Nat):Int)),(2,.slice D m cd),(7,.slice (some ⟨g1,0,none⟩) 1 1),(8,.int .i64 ((bit:Nat):Int))])
  (fun⟨wr,bit⟩=>wr)
  (fun⟨wr,bit⟩=>(Ext w wr)∧(∃i,bit=2^i)∧(bit≤k)∧(Rd wr A n cap (db 4294967296 (R)))∧(Rd wr D m cd (db 4294967296 (Y)))∧(Rd wr (some ⟨g1,0,none⟩) 1 1 (db 4294967296 (1))))
  (fun⟨wr,bit⟩=>k-bit)
  (⟨v2,1⟩:World×Nat) ⟨hw1,⟨0,rfl⟩,hk1,(hx.ext e5),(hy.ext e5),rd8⟩ rfl ⟨rfl,rfl,rfl,rfl,rfl,trivial⟩ ?_
 rintro⟨wr,bit⟩ ⟨hw1,hbi,hbk,rl0,rl2,rl7⟩
 refine cw_re [(0,.slice A n cap),(1,.int .i64 ((k:Nat):Int)),(2,.slice D m cd),(7,.slice (some ⟨g1,0,none⟩) 1 1),(8,.int .i64 ((bit:Nat):Int))] wr rfl ⟨rfl,rfl,rfl,rfl,rfl,trivial⟩ (cw_seq (cw_seq ?_))
 by_cases hkb:k/2≥bit
 · 
  refine cw_region (mv 1 rfl (wl_ar rfl rfl rfl ((k/2:Nat):Int) (ai_quo (a:=k) (b:=2) rfl rfl (by omega) (by omega)) (by decide) (mv 1 rfl (wl_cmp rfl rfl rfl true (cb_ge_t (a:=k/2) (b:=bit) rfl rfl (by omega)) (by decide) (ne_ (cw_true rfl (cw_skip (eo_then (cw_block (cw_region (mv 1 rfl (wl_ar rfl rfl rfl ((2*bit:Nat):Int) (ai_mul (a:=2) (b:=bit) rfl rfl (by omega)) (by decide) (mv 1 rfl ?_)))))))))))))
  refine wl_nil (eo_block_normal (eo_round (⟨wr,2*bit⟩:World×Nat) ⟨hw1,(by obtain⟨i,hi⟩:=hbi;exact⟨i+1,by rw [hi,Nat.pow_succ,Nat.mul_comm]⟩),(by omega),rl0,rl2,rl7⟩ (show k-2*bit<k-bit by obtain⟨i,hi⟩:=hbi;have:=Nat.two_pow_pos i;omega) rfl ⟨rfl,rfl,rfl,rfl,rfl,trivial⟩))
 · 
  refine cw_region (mv 1 rfl (wl_ar rfl rfl rfl ((k/2:Nat):Int) (ai_quo (a:=k) (b:=2) rfl rfl (by omega) (by omega)) (by decide) (mv 1 rfl (wl_cmp rfl rfl rfl false (cb_ge_f (a:=k/2) (b:=bit) rfl rfl (by omega)) (by decide) (ne_ (cw_false rfl (cw_exit (eo_thenX (eo_loopX (eo_block_here (eo_then (cw_seq (cw_block ?_)))))))))))))
  refine cw_loop (T:=World×Nat×Option Addr×Nat×Nat×Nat)
   (fun⟨wr2,bt,A7,n7,c7,P⟩=> [(0,.slice A n cap),(1,.int .i64 ((k:Nat):Int)),(2,.slice D m cd),(7,.slice A7 n7 c7),(8,.int .i64 ((bt:Nat):Int))])
   (fun⟨wr2,bt,A7,n7,c7,P⟩=>wr2)
   (fun⟨wr2,bt,A7,n7,c7,P⟩=>(Ext w wr2)∧(bt=0∨∃i,bt=2^i)∧(bt≤k)∧(P=R^(if bt=0 then k else k/(2*bt)))∧(P≤Y∨P=1∧bt≠0)∧(Rd wr2 A n cap (db 4294967296 (R)))∧(Rd wr2 D m cd (db 4294967296 (Y)))∧(Rd wr2 A7 n7 c7 (db 4294967296 (P))))
   (fun⟨wr2,bt,A7,n7,c7,P⟩=>bt)
   (⟨wr,bit,_,_,_,1⟩:World×Nat×Option Addr×Nat×Nat×Nat) ⟨hw1,(Or.inr hbi),hbk,(by obtain⟨i,hi⟩:=hbi;have:=Nat.two_pow_pos i;rw [if_neg (by omega),Nat.div_eq_of_lt (by omega),Nat.pow_zero]),(Or.inr ⟨rfl,by obtain⟨i,hi⟩:=hbi;have:=Nat.two_pow_pos i;omega⟩),rl0,rl2,rl7⟩ rfl ⟨rfl,rfl,rfl,rfl,rfl,trivial⟩ ?_
  rintro⟨wr2,bt,A7,n7,c7,P⟩ ⟨hw1,hbi2,hbk2,hP,hPY,rl0,rl2,rl7⟩
  refine cw_re [(0,.slice A n cap),(1,.int .i64 ((k:Nat):Int)),(2,.slice D m cd),(7,.slice A7 n7 c7),(8,.int .i64 ((bt:Nat):Int))] wr2 rfl ⟨rfl,rfl,rfl,rfl,rfl,trivial⟩ (cw_seq (cw_seq ?_))
  by_cases hbt:bt>0
  · 
   obtain⟨i,hi⟩:∃i,bt=2^i:=by rcases hbi2 with h | h;(· omega);(· exact h)
   rw [if_neg (by omega)] at hP
   have hlP:=rl7.len
   have hlY:=hy.len
   have hlX:=hx.len
   have hlP2:n7≤1073741825:=by rcases hPY with h | h;(· have:=len_db_mono b32 h;omega);(· rw [h.1,db_one] at hlP;simp only [List.length_cons,List.length_nil] at hlP;omega)
   have hpe:=am_exp (S:=R) (k:=k) (i:=i)
   rw [←hi,←hP] at hpe
   refine cw_region (mv 1 rfl (wl_cmp rfl rfl rfl true (cb_gt_t (a:=bt) (b:=0) rfl rfl (by omega)) (by decide) (ne_ (cw_true rfl (cw_skip (eo_then (cw_block (sr (mv 2 rfl (cl (vs:= [.slice A7 n7 c7,.slice A7 n7 c7]) hw1 (ref3_times rl7 (by omega) rl7 (by omega)) rfl (by kernel_rfl) fun xr11 v9 r11 e10 hw2=>?_))))))))))
   obtain⟨A12,n12,c12,rfl,rd12⟩:=r11
   refine mv 1 rfl (ne_ (cw_seq (cw_seq ?_)))
   have hlPP:=rd12.len
   have hml:=len_db_mul (x:=P) (y:=P)
   by_cases hod:(k/bt)%2=1
   · 
    rw [if_pos hod] at hpe
    refine cw_region (mv 2 rfl (wl_ar rfl rfl rfl ((k/bt:Nat):Int) (ai_quo (a:=k) (b:=bt) rfl rfl (by omega) (by omega)) (by decide) (wl_ar rfl rfl rfl (((k/bt)%2:Nat):Int) (au_rem (a:=k/bt) (b:=2) rfl rfl (by omega)) (by decide) (wl_cmp rfl rfl rfl true (cb_eq_t (a:=(k/bt)%2) (b:=1) rfl rfl (by omega)) (by decide) (ne_ (cw_true rfl (cw_region (mv 2 rfl (cl (vs:= [.slice A12 n12 c12,.slice A n cap]) hw2 (ref3_times rd12 (by omega) (rl0.ext e10) (by omega)) rfl (by kernel_rfl) fun xr15 v13 r15 e14 hw3=>?_)))))))))
    obtain⟨A16,n16,c16,rfl,rd16⟩:=r15
    refine mv 1 rfl (ne_ (cw_seq ?_))
    have hlPR:=rd16.len
    have hml2:=len_db_mul (x:=P*P) (y:=R)
    have hPn:(P*P)*R=R^(k/bt):=hpe.symm
    by_cases hov:Y<(P*P)*R
    · 
     refine cw_region (mv 2 rfl (cl (vs:= [.slice D m cd,.slice A16 n16 c16]) hw3 (ref3_below' (b:=true) (rl2.ext (e10.trans e14)) (by omega) rd16 (by omega) (by rw [decide_eq_true hov])) rfl (by kernel_rfl) fun xr19 v17 r19 e18 hw4=>?_))
     obtain rfl:=r19
     refine mv 1 rfl (ne_ (cw_seq (sr (mv 1 rfl (ne_ (cw_true rfl (sr (mv 1 rfl (ne_ (cw_ret (eo_thenR (eo_block_ret (eo_loopR ?_)))))))))))))
     refine eo_block_ret (eo_thenR (eo_ret [F0] rfl ⟨rfl,trivial⟩ ?_))
     rw [hPn] at hov
     have hR:=am_over (Nat.div_pos hbk2 hbt) (Nat.div_le_self k bt) hov
     exact⟨_,rfl,(by rw [decide_eq_false hR];rfl),hw4⟩
    · 
     refine cw_region (mv 2 rfl (cl (vs:= [.slice D m cd,.slice A16 n16 c16]) hw3 (ref3_below' (b:=false) (rl2.ext (e10.trans e14)) (by omega) rd16 (by omega) (by rw [decide_eq_false hov])) rfl (by kernel_rfl) fun xr22 v20 r22 e21 hw4=>?_))
     obtain rfl:=r22
     refine mv 1 rfl (ne_ (cw_seq (sr (mv 1 rfl (ne_ (cw_false rfl (cw_skip (eo_then (cw_region (mv 1 rfl (wl_ar rfl rfl rfl ((bt/2:Nat):Int) (ai_quo (a:=bt) (b:=2) rfl rfl (by omega) (by omega)) (by decide) (mv 1 rfl (wl_nil ?_)))))))))))))
     refine eo_block_normal (eo_round (⟨v20,bt/2,_,_,_,_⟩:World×Nat×Option Addr×Nat×Nat×Nat) ⟨hw4,(by rw [hi];exact am_half),(by omega),(by rw [hPn,hi,am_next]),(Or.inl (by omega)),(rl0.ext (e10.trans (e14.trans e21))),(rl2.ext (e10.trans (e14.trans e21))),(rd16.ext e21)⟩ (show bt/2<bt by omega) rfl ⟨rfl,rfl,rfl,rfl,rfl,trivial⟩)
   · 
    rw [if_neg hod,Nat.mul_one] at hpe
    refine cw_region (mv 2 rfl (wl_ar rfl rfl rfl ((k/bt:Nat):Int) (ai_quo (a:=k) (b:=bt) rfl rfl (by omega) (by omega)) (by decide) (wl_ar rfl rfl rfl (((k/bt)%2:Nat):Int) (au_rem (a:=k/bt) (b:=2) rfl rfl (by omega)) (by decide) (wl_cmp rfl rfl rfl false (cb_eq_f (a:=(k/bt)%2) (b:=1) rfl rfl (by omega)) (by decide) (ne_ (cw_false rfl (cw_skip (eo_then (cw_seq ?_)))))))))
    have hPn:P*P=R^(k/bt):=hpe.symm
    by_cases hov:Y<P*P
    · 
     refine cw_region (mv 2 rfl (cl (vs:= [.slice D m cd,.slice A12 n12 c12]) hw2 (ref3_below' (b:=true) (rl2.ext e10) (by omega) rd12 (by omega) (by rw [decide_eq_true hov])) rfl (by kernel_rfl) fun xr25 v23 r25 e24 hw3=>?_))
     obtain rfl:=r25
     refine mv 1 rfl (ne_ (cw_seq (sr (mv 1 rfl (ne_ (cw_true rfl (sr (mv 1 rfl (ne_ (cw_ret (eo_thenR (eo_block_ret (eo_loopR ?_)))))))))))))
     refine eo_block_ret (eo_thenR (eo_ret [F0] rfl ⟨rfl,trivial⟩ ?_))
     rw [hPn] at hov
     have hR:=am_over (Nat.div_pos hbk2 hbt) (Nat.div_le_self k bt) hov
     exact⟨_,rfl,(by rw [decide_eq_false hR];rfl),hw3⟩
    · 
     refine cw_region (mv 2 rfl (cl (vs:= [.slice D m cd,.slice A12 n12 c12]) hw2 (ref3_below' (b:=false) (rl2.ext e10) (by omega) rd12 (by omega) (by rw [decide_eq_false hov])) rfl (by kernel_rfl) fun xr28 v26 r28 e27 hw3=>?_))
     obtain rfl:=r28
     refine mv 1 rfl (ne_ (cw_seq (sr (mv 1 rfl (ne_ (cw_false rfl (cw_skip (eo_then (cw_region (mv 1 rfl (wl_ar rfl rfl rfl ((bt/2:Nat):Int) (ai_quo (a:=bt) (b:=2) rfl rfl (by omega) (by omega)) (by decide) (mv 1 rfl (wl_nil ?_)))))))))))))
     refine eo_block_normal (eo_round (⟨v26,bt/2,_,_,_,_⟩:World×Nat×Option Addr×Nat×Nat×Nat) ⟨hw3,(by rw [hi];exact am_half),(by omega),(by rw [hPn,hi,am_next]),(Or.inl (by omega)),(rl0.ext (e10.trans e27)),(rl2.ext (e10.trans e27)),(rd12.ext e27)⟩ (show bt/2<bt by omega) rfl ⟨rfl,rfl,rfl,rfl,rfl,trivial⟩)
  · 
   refine cw_region (mv 1 rfl (wl_cmp rfl rfl rfl false (cb_gt_f (a:=bt) (b:=0) rfl rfl (by omega)) (by decide) (ne_ (cw_false rfl (cw_exit (eo_thenX (eo_loopX (eo_block_here (eo_then (sr (mv 1 rfl (ne_ (cw_ret ?_)))))))))))))
   refine eo_ret [.bool true] rfl ⟨rfl,trivial⟩ ?_
   have hb0:bt=0:=by omega
   rw [if_pos hb0] at hP
   have hR:R^k≤Y:=by rw [←hP];omega
   exact⟨_,rfl,(by rw [decide_eq_true hR];rfl),hw1⟩
theorem UpdO.of {w w':World}{A:Option Addr}(h:w.grownBy w' none):UpdO A w w':=⟨⟨h.os,h.tape,h.output,h.size,fun k hk _=>h.block k hk (by simp)⟩⟩
theorem Upd.updO {w w':World}{g:Nat}(h:Upd g w w'){o:Nat}{x:_}:UpdO (some ⟨g,o,x⟩) w w':=⟨h.by_⟩
theorem overl_take {cs us vs:List Value}{k:Nat}(hv:cs.take k=vs) (hk:k≤cs.length):(overl cs k us).take (k+us.length)=vs++us:=by
 unfold overl
 have e:(cs.take k++us).length=k+us.length:=by rw [List.length_append,List.length_take,Nat.min_eq_left hk]
 rw [←e,List.take_left',hv]
 rfl
def Kept (w:World) (A A':Option Addr):Prop:=∀a',A'=some a'→(∃a,A=some a∧a'.block=a.block)∨w.heap.size≤a'.block
section
variable {P:Program}
theorem run_app {t ty e:TypeId}{z:Value}{s bytes:Nat}(ht:P.underlying t=some (.slice e)) (hinfo:(P.info? e).map (fun i=>(i.zero,i.size,i.bytes))=some (some z,s,bytes)) (hzs:z.cells.size=s) (hsz:0<s) (hby:bytes≤64)
  {w:World}{base:Nat}{A:Option Addr}{n cap:Nat}{xs:List Value}(hown:Own w base e s A n cap xs) (hb:base≤w.heap.size){a:Addr}{m c:Nat}{news:List Value}(hl:news.length=m*s) (hnews:∀j u,news[j]?=some u→w.cell? (a.add j)=some u)
  (h1:news.all (·.oneCell')=true) (hm:n+m≤1099511627776):
  ∃A' cap' w',(Builtin.append_ #[t,t] ty #[.slice A n cap,.slice (some a) m c]).run P w= .ok (.slice A' (n+m) cap') w'∧Own w' base e s A' (n+m) cap' (xs++news)∧UpdO A w w'∧Kept w A A':=by
 obtain⟨i,hi,hz,hz1,hz2⟩:=info_parts hinfo
 have h1':∀u∈news,u.oneCell'=true:=by simpa [List.all_eq_true] using h1
 have h63:n+m≤maxLen:=by rw [len_maxLen];omega
 have hbytes:(n+m)*bytes≤140737488355328:=by
  have:(n+m)*bytes≤1099511627776*64:=Nat.mul_le_mul hm hby
  omega
 rcases hown with⟨rfl,rfl,rfl,rfl⟩ | ⟨g,cs,rfl,hg,hk,hn,hcm,hcl,hv⟩
 ·obtain⟨v',w',hr,h2,h3,_⟩:=run_append_own (P:=P) w w.heap.size t ty e i z s bytes ht hi hz hz1 hz2 hzs hsz (.slice none 0 0) 0 [] (World.ownsRow_nil w _ e s) a m c news hl hnews h1' h63 hbytes (Nat.le_refl _)
  obtain⟨A',cap',rfl,ho⟩:=Own.of_row h2
  exact⟨A',cap',w',hr,ho.mono hb,UpdO.of h3,fun a' ha=>Or.inr (ho.block a' ha).1⟩
 ·by_cases hroom:n+m≤cap
  ·have hfit:n*s+news.length≤cs.length:=by rw [hl,hcl,←Nat.add_mul];exact Nat.mul_le_mul_right s hroom
   obtain⟨w',hst,hb2,hu,hs⟩:=store_cells (P:=P) news 0 (n*s) w cs hk (by omega) h1'
   rw [Nat.add_zero] at hb2
   have hfc:=run_firstCells_some (P:=P) w i.size m a m c news (by rw [hz1];exact hl) hnews
   rw [hz1] at hfc
   refine⟨some ⟨g,0,none⟩,cap,w',?_,Or.inr ⟨g,_,rfl,hg,hb2,hroom,hcm,?_,?_⟩,hu.updO,fun a' ha=>Or.inl ⟨_,rfl,by cases ha;rfl⟩⟩
   ·simp [Builtin.append_,run_underlying ht,sizeOf,typeInfo,hi,Builtin.lenOf,hroom,hfc,Addr.add_lit,hz1,hst]
   ·unfold overl
    simp only [List.length_append,List.length_take,List.length_drop]
    omega
   ·rw [Nat.add_mul,←hl]
    exact overl_take hv (by omega)
  ·have hx:=hv
   obtain⟨v',w',hr,h2,h3⟩:=run_append_arg_grows (P:=P) w t ty e i z s bytes ht hi hz hz1 hz2 hzs hsz ⟨g,0,none⟩ n cap xs
    (by rw [←hv,List.length_take];have:=Nat.mul_le_mul_right s hn;omega)
    (fun j u hj=>by
     have hjl:=(List.getElem?_eq_some_iff.1 hj).1
     rw [add_lit0,Nat.zero_add,hk.cell (by rw [←hv,List.length_take] at hjl;omega)]
     rw [←hv,List.getElem?_take] at hj
     split at hj
     ·rw [List.getD_eq_getElem?_getD,hj];rfl
     ·cases hj) a m c news hl hnews (by omega) h63 hbytes
   obtain⟨A',cap',rfl,ho⟩:=Own.of_row h2
   exact⟨A',cap',w',hr,ho.mono hb,UpdO.of h3,fun a' ha=>Or.inr (ho.block a' ha).1⟩
variable {Q:Exit→Act→World→Prop}{n:Nat}{l:Fr}{w:World}{ops:Array Oper}{rest:List Oper}{d:Nat}{ty:TypeId}{pos:String}{af:Array Edge}{gd:Option (Nat×Bool)}
theorem wl_app {x y:Operand}{t e:TypeId}{z:Value}{s bytes k m c cap base:Nat}{A:Option Addr}{a:Addr}{xs:List Value}(hw:guardB ops l gd=some true) (hx:evo l x=some (.slice A k cap)) (hy:evo l y=some (.slice (some a) m c))
  (ht:P.underlying t=some (.slice e)) (hinfo:(P.info? e).map (fun i=>(i.zero,i.size,i.bytes))=some (some z,s,bytes)) (hzs:z.cells.size=s) (hsz:0<s) (hby:bytes≤64)
  (hown:Own w base e s A k cap xs) (hb:base≤w.heap.size) (news:List Value) (hl:news.length=m*s) (hnews:∀j u,news[j]?=some u→w.cell? (a.add j)=some u)
  (h1:news.all (·.oneCell')=true) (hm:k+m≤1099511627776) (hn:d<n)
  (h:∀A' cap' w',Own w' base e s A' (k+m) cap' (xs++news)→UpdO A w w'→Kept w A A'→wl P ops Q n rest ((d,.slice A' (k+m) cap')::l) w'):
  wl P ops Q n (⟨some d,.call {callee:= .builtin .append,args:= #[x,y],argTypes:= #[t,t]},ty,pos,af,gd⟩::rest) l w:=by
 obtain⟨A',cap',w',hr,h2,h3,h4⟩:=run_app (P:=P) (ty:=ty) ht hinfo hzs hsz hby hown hb hl hnews h1 hm
 refine wl_val hw hn (fun a' ha=>?_) (h A' cap' w' h2 h3 h4)
 unfold execOp
 simp only [resolve,invoke,builtin,Sem.run_bind,Sem.run_pure,Result.andThen_ok,List.map_toArray,List.map_cons,List.map_nil,ha.ev hx,ha.ev hy]
 rw [hr]
 rfl
end
theorem Own.updOT {w w':World}{b b':Nat}{t T:TypeId}{s s':Nat}{A B:Option Addr}{n cap m c:Nat}{vs us:List Value}(h:Own w b t s A n cap vs) (ho:Own w b' T s' B m c us) (hT:t≠T) (x:UpdO B w w'):Own w' b t s A n cap vs:=by
 refine h.updO x (fun p q hp hq hg=>?_)
 rcases ho with⟨h1,_⟩ | ⟨k,cs,hB,_,hk,_⟩
 ·rw [h1] at hp;cases hp
 ·rcases h with⟨h2,_⟩ | ⟨k',cs',hA,_,hk',_⟩
  ·rw [h2] at hq;cases hq
  ·rw [hB] at hp;rw [hA] at hq
   cases hp;cases hq
   simp only at hg
   subst hg
   unfold Bk at hk hk'
   rw [hk] at hk'
   injection hk' with hk'
   injection hk' with e1 e2
   exact hT e2.symm
theorem one_news3 {w:World}{g:Nat}{T:TypeId}(v:Value) (h:Bk w g T [v]):∀j u,[v][j]?=some u→w.cell? ((⟨g,0,none⟩:Addr).add j)=some u:=by
 intro j u hj
 have hjl:=(List.getElem?_eq_some_iff.1 hj).1
 rw [add_lit0,Nat.zero_add,h.cell hjl,List.getD_eq_getElem?_getD,hj];rfl
theorem slice_to8 (A:Option Addr) (c k:Nat):Value.slice (if c=0 then A else A.map (·.add (0*1))) (k-0) (c-0)= .slice A k c:=by
 have h0:A.map (·.add (0*1))=A:=by
  cases A with
  | none=>rfl
  | some a=>simp [Addr.add]
 rw [h0,ite_self];rfl
theorem un_wl:Try.prog.underlying 73=some (.slice 22):=by kernel_rfl
theorem sz_wl (w:World):(sizeOf 22).run Try.prog w= .ok 1 w:=by kernel_rfl
theorem ag_wl (w:World):(isAgg 22).run Try.prog w= .ok false w:=by kernel_rfl
theorem info_wl:(Try.prog.info? 22).map (fun i=>(i.zero,i.size,i.bytes))=some (some (.slice none 0 0),1,24):=by kernel_rfl
section
variable {P:Program}{Q:Exit→Act→World→Prop}{n:Nat}{l:Fr}{w:World}{ops:Array Oper}{rest:List Oper}{d:Nat}{ty:TypeId}{pos:String}{af:Array Edge}{gd:Option (Nat×Bool)}
theorem wl_appF {x y:Operand}{t e:TypeId}{z:Value}{bytes N g base v:Nat}{B:Option Addr}{xs:List Nat}(hw:guardB ops l gd=some true) (hx:evo l x=some (.slice (some ⟨g,0,none⟩) N N)) (hy:evo l y=some (.slice B 1 1))
  (ht:P.underlying t=some (.slice e)) (hinfo:(P.info? e).map (fun i=>(i.zero,i.size,i.bytes))=some (some z,1,bytes)) (hzs:z.cells.size=1) (hby:bytes≤64)
  (hb:Bk w g e (xs.map W64)) (hlen:xs.length=N) (hown:Own w base e 1 B 1 1 [W64 v]) (hm:N+1≤1099511627776) (hn:d<n)
  (h:∀A' cap' w',Own w' w.heap.size e 1 A' (N+1) cap' ((xs++ [v]).map W64)→Ext w w'→wl P ops Q n rest ((d,.slice A' (N+1) cap')::l) w'):
  wl P ops Q n (⟨some d,.call {callee:= .builtin .append,args:= #[x,y],argTypes:= #[t,t]},ty,pos,af,gd⟩::rest) l w:=by
 obtain⟨i,hi,hz,hz1,hz2⟩:=info_parts hinfo
 have h63:N+1≤maxLen:=by rw [len_maxLen];omega
 have hbytes:(N+1)*bytes≤140737488355328:=by
  have:(N+1)*bytes≤1099511627776*64:=Nat.mul_le_mul hm hby
  omega
 obtain⟨a,rfl,hc⟩:=hown.rv.get 0 (by decide)
 have hnews:∀j u,[W64 v][j]?=some u→w.cell? (a.add j)=some u:=by
  intro j u hj
  have hjl:=(List.getElem?_eq_some_iff.1 hj).1
  obtain rfl:j=0:=by simp only [List.length_cons,List.length_nil] at hjl;omega
  rw [hc]
  simpa using hj
 obtain⟨v',w',hr,h2,h3⟩:=run_append_arg_grows (P:=P) w t ty e i z 1 bytes ht hi hz hz1 hz2 hzs (by decide) ⟨g,0,none⟩ N N (xs.map W64)
  (by rw [List.length_map,hlen,Nat.mul_one])
  (fun j u hj=>by
   have hjl:=(List.getElem?_eq_some_iff.1 hj).1
   rw [add_lit0,Nat.zero_add,hb.cell hjl,List.getD_eq_getElem?_getD,hj];rfl) a 1 1 [W64 v] (by simp) hnews (by omega) h63 hbytes
 obtain⟨A',cap',rfl,ho⟩:=Own.of_row h2
 refine wl_val hw hn (fun a' ha=>?_) (h A' cap' w' (by rw [List.map_append];exact ho) (Ext.of_grown h3))
 unfold execOp
 simp only [resolve,invoke,builtin,Sem.run_bind,Sem.run_pure,Result.andThen_ok,List.map_toArray,List.map_cons,List.map_nil,ha.ev hx,ha.ev hy]
 rw [hr]
 rfl
end
theorem u64_shl1 {s:Nat}(hs:s≤63) (P:Program) (t:TypeId) (w:World):(binOp .shl t (.int .u64 1) (.int .u64 (s:Int))).run P w= .ok (.int .u64 ((2^s:Nat):Int)) w:=by
 have h:=u64_shl (x:=1) (s:=s) (by omega) P t w
 rw [Nat.one_mul,Nat.mod_eq_of_lt (Nat.lt_of_le_of_lt (Nat.pow_le_pow_right (by decide) hs) (by decide))] at h
 exact h
theorem nw_step {b c x y d d' j:Nat}{l l' Q:List Nat}(h:nb b (l'.take j)+b^j*c=nb b (l.take j)+nb b (Q.take j)) (hi:j<l'.length) (hi2:j<l.length) (hx:l.getD j 0=x) (hy:nb b (Q.take (j+1))=nb b (Q.take j)+b^j*y) (hd:d+b*d'=x+c+y):
  nb b ((l'.set j d).take (j+1))+b^(j+1)*d'=nb b (l.take (j+1))+nb b (Q.take (j+1)):=by
 rw [nb_set_snoc b hi,nb_take_snoc b l j hi2,hx,hy,Nat.pow_succ,Nat.mul_assoc,Nat.add_assoc,←Nat.mul_add,hd,Nat.mul_add,Nat.mul_add]
 omega
theorem nw_start {h:Nat}:nb 4294967296 ((List.replicate (h/32+2) 0).set ((h+1)/32) (2^((h+1)%32)))=2^(h+1):=by
 have h1:=nb_set 4294967296 (l:=List.replicate (h/32+2) 0) (k:=(h+1)/32) (by rw [List.length_replicate];omega) (2^((h+1)%32))
 rw [getD_zeros,nb_zeros,Nat.mul_zero,Nat.add_zero,Nat.zero_add] at h1
 rw [h1,show (4294967296:Nat)=2^32 from rfl,←Nat.pow_mul,←Nat.pow_add,Nat.div_add_mod]
theorem nw_above0 {X k high:Nat}(hk:1≤k) (hh:high=blen X/k):X<(2^(high+1)+1)^k:=by
 have h1:=lt_blen X
 have h2:blen X<(high+1)*k:=by
  have:=Nat.lt_mul_div_succ (blen X) (show 0<k by omega)
  rw [hh,Nat.mul_comm];exact this
 have h3:2^blen X≤(2^(high+1))^k:=by rw [←Nat.pow_mul];exact Nat.pow_le_pow_right (by decide) (by omega)
 have h4:(2^(high+1))^k≤(2^(high+1)+1)^k:=Nat.pow_le_pow_left (by omega) k
 omega
theorem nw_xlen {x high:Nat}(h:x≤2^(high+1)):(db 4294967296 x).length≤high/32+2:=by
 refine len_db_le b32 (Nat.lt_of_le_of_lt h ?_)
 rw [show (4294967296:Nat)=2^32 from rfl,←Nat.pow_mul]
 exact Nat.pow_lt_pow_right (by decide) (by omega)
theorem nw_plen {x high k i N:Nat}(h:x≤2^(high+1)) (hi:i≤k) (h1:high*k≤N) (h2:k≤N):(db 4294967296 (x^i)).length≤N/16+1:=by
 refine len_db_le b32 ?_
 have h3:x^i≤2^((high+1)*k):=Nat.le_trans (Nat.pow_le_pow_left h i) (by rw [←Nat.pow_mul];exact Nat.pow_le_pow_right (by decide) (Nat.mul_le_mul_left _ hi))
 refine Nat.lt_of_le_of_lt h3 ?_
 rw [show (4294967296:Nat)=2^32 from rfl,←Nat.pow_mul]
 refine Nat.pow_lt_pow_right (by decide) ?_
 rw [Nat.add_mul,Nat.one_mul]
 omega
theorem nw_qlen {X x m n:Nat}(hl:(db 4294967296 x).length=n) (h:X<(x+1)^(m+1)) (hm:2*m≤x) (hx:0<x):(db 4294967296 (X/x^m)).length≤n+1:=by
 refine len_db_le b32 ?_
 have h1:=nw_quo h hm hx
 have h2:=lt_pow_len_db b32 x
 rw [hl] at h2
 rw [Nat.pow_succ]
 omega
theorem nb_snoc3 (b:Nat) (l:List Nat) (c:Nat):nb b (l++ [c])=nb b l+b^l.length*c:=by
 have h:=nb_take_snoc b (l++ [c]) l.length (by simp)
 rw [List.take_of_length_le (by simp),List.take_left'] at h
 ·rw [h]
  simp [List.getD_eq_getElem?_getD]
 ·rfl
theorem Wfb_snoc3 {b:Nat}{l:List Nat}{c:Nat}(h:Wfb b l) (hc:c<b):Wfb b (l++ [c]):=fun x hx=>by
 rcases List.mem_append.1 hx with h1 | h1
 ·exact h x h1
 ·rw [List.mem_singleton] at h1;omega
set_option maxHeartbeats 8000000 in
theorem ref3_newton {w:World}{A:Option Addr}{n cap X k high:Nat}(hx:Rd w A n cap (db 4294967296 (X))) (hln:n≤1073741824) (hX:X≠0) (hk2:2≤k) (hh:high=blen X/k) (hhk:k<high) (hbl:blen X≤34359738368):
    Calls Try.prog 95 #[.slice A n cap,.int .i64 ((k:Nat):Int),.int .i64 ((high:Nat):Int)] w (fun e w'=>∃r,IsRoot X k r∧Gv w (WR w.heap.size r) e w'):=by
 have hkh:high*k≤blen X:=by rw [hh];exact Nat.div_mul_le_self _ _
 have hhb:high≤blen X:=by rw [hh];exact Nat.div_le_self _ _
 have hkk:k*k≤high*k:=Nat.mul_le_mul_right k (Nat.le_of_lt hhk)
 have hk32:k≤4294967295:=by refine Nat.le_of_not_lt fun h=>?_;have h2:4294967296*4294967296≤k*k:=Nat.mul_le_mul h h;omega
 have hXb:2^(blen X-1)≤X:=blen_le_self hX
 refine sx_enter Try.func95 rfl (n:=105) rfl (bq rfl) (args:= [.slice A n cap,.int .i64 ((k:Nat):Int),.int .i64 ((high:Nat):Int)]) (cw_keep [(0,.slice A n cap),(1,.int .i64 ((k:Nat):Int)),(2,.int .i64 ((high:Nat):Int))] ⟨rfl,rfl,rfl,trivial⟩ (sr (mv 1 rfl (ne_ (sr (mv 1 rfl (wl_ar rfl rfl rfl ((high/32:Nat):Int) (ai_quo (a:=high) (b:=32) rfl rfl (by omega) (by omega)) (by decide) (wl_ar rfl rfl rfl (((high/32)+2:Nat):Int) (ai_add (a:=high/32) (b:=2) rfl rfl (by omega)) (by decide) (wl_make rfl (k:=(high/32)+2) rfl rfl rfl un_u64 info64 rfl (by decide) (by omega) (by decide) fun g1 v2 hg3 hb4 e5=>?_)))))))))
 rw [replicate_W64] at hb4
 have ge6:w.heap.size≤g1:=by rw [←hg3];exact (Ext.refl w).size
 have ne8:0<cap→∀a,A=some a→a.block≠g1:=fun hc a ha=>by have:=(hx).rv.blk a ha hc;omega
 clear hg3
 have hw1:=(Ext.refl w).trans e5
 refine mv 1 rfl (ne_ (cw_seq ?_))
 have hp31:2^((high+1)%32)≤2^31:=Nat.pow_le_pow_right (by decide) (by omega)
 refine cw_region (mv 2 rfl (wl_ar rfl rfl rfl ((high+1:Nat):Int) (ai_add (a:=high) (b:=1) rfl rfl (by omega)) (by decide) (wl_ar rfl rfl rfl (((high+1)/32:Nat):Int) (ai_quo (a:=high+1) (b:=32) rfl rfl (by omega) (by omega)) (by decide) (mv 1 rfl (wl_ar rfl rfl rfl ((high+1:Nat):Int) (ai_add (a:=high) (b:=1) rfl rfl (by omega)) (by decide) (wl_ar rfl rfl rfl (((high+1)%32:Nat):Int) (au_rem (a:=high+1) (b:=32) rfl rfl (by omega)) (by decide) (wl_pureE rfl rfl (v:= .int .u64 (IntKind.u64.wrap (((high+1)%32:Nat):Int))) (v':= .int .u64 (((high+1)%32:Nat):Int)) (by decide) (by kernel_rfl) (cv_u64 (by first | omega | exact (by omega))) (wl_op rfl rfl rfl (r:= .int .u64 ((2^((high+1)%32):Nat):Int)) rfl (fun w=>u64_shl1 (s:=(high+1)%32) (by omega) _ _ w) (by decide) (wl_idx rfl rfl rfl un_u64 sz_u64 ((high+1)/32) rfl (by omega) ⟨g1,(high+1)/32,none⟩ (arr_at _ _) (by decide) (wl_stored1 rfl rfl rfl sz_u64 rfl hb4 (len_map (by rw [(List.length_replicate (n:=(high/32)+2) (a:=0))];omega)) rfl (((List.replicate ((high/32)+2) 0).set ((high+1)/32) (2^((high+1)%32))).map W64) (map_W64_set _ _ _) fun v9 hb11 u12 hs13=>?_))))))))))
 have hw2:=u12.ext hw1 ge6
 refine ne_ (cw_seq ?_)
 have hwf0:Wfb 4294967296 ((List.replicate ((high/32)+2) 0).set ((high+1)/32) (2^((high+1)%32))):=Wfb_set (Wfb_zeros (by decide) _) _ (by omega)
 refine cw_region (mv 1 rfl (cl (vs:= [.slice (some ⟨g1,0,none⟩) ((high/32)+2) ((high/32)+2)]) hw2 (ref3_Trim (hb11.rd0 hwf0.wf (len_set (l:=List.replicate ((high/32)+2) 0) ((List.length_replicate (n:=(high/32)+2) (a:=0)))) (by omega)) (by omega)) rfl (by kernel_rfl) fun xr16 v14 r16 e15 hw3=>?_))
 obtain⟨k17,rfl,hk17,ht17,hv17⟩:=r16
 refine mv 1 rfl (ne_ (cw_block ?_))
 have hrt:=(((hb11.ext e15).rd0 hwf0.wf (len_set (l:=List.replicate ((high/32)+2) 0) ((List.length_replicate (n:=(high/32)+2) (a:=0)))) (by omega)).trim hwf0 hk17 ht17 hv17)
 rw [nw_start] at hrt
 refine cw_loop (T:=World×Option Addr×Nat×Nat×Nat)
  (fun⟨wr,A7,n7,c7,x⟩=> [(0,.slice A n cap),(1,.int .i64 ((k:Nat):Int)),(7,.slice A7 n7 c7)])
  (fun⟨wr,A7,n7,c7,x⟩=>wr)
  (fun⟨wr,A7,n7,c7,x⟩=>(Ext w wr)∧(X<(x+1)^k)∧(x≤2^(high+1))∧(Rd wr A n cap (db 4294967296 (X)))∧(Rd wr A7 n7 c7 (db 4294967296 (x))))
  (fun⟨wr,A7,n7,c7,x⟩=>x)
  (⟨v14,_,_,_,2^(high+1)⟩:World×Option Addr×Nat×Nat×Nat) ⟨hw3,(nw_above0 (by omega) hh),(Nat.le_refl _),((Rd.updL (hx.ext e5) u12 ne8).ext e15),hrt⟩ rfl ⟨rfl,rfl,rfl,trivial⟩ ?_
 rintro⟨wr,A7,n7,c7,x⟩ ⟨hw1,hax,hx2,rl0,rl7⟩
 refine cw_re [(0,.slice A n cap),(1,.int .i64 ((k:Nat):Int)),(7,.slice A7 n7 c7)] wr rfl ⟨rfl,rfl,rfl,trivial⟩ (cw_block (sr (wl_bslice rfl rfl (by decide) (k:=1) (e:=24) [.int .u64 1] (fun _=>by kernel_rfl) fun g18 v19 nb20=>?_)))
 have o21:=O1.mk_ (x:=1) (b:=w.heap.size) nb20 hw1.size
 have e22:=nb20.ext
 have hw2:=hw1.trans e22
 refine mv 1 rfl (ne_ (cw_seq (cw_seq ?_)))
 have rd25:=one_rd o21 (by decide) (by decide)
 have hl7:=rl7.len
 have hxl:=nw_xlen hx2
 rw [hl7] at hxl
 have hx0:0<x:=Nat.pos_of_ne_zero fun e=>by rw [e,Nat.zero_add,Nat.one_pow] at hax;omega
 refine cw_region (mv 1 rfl (ne_ (cw_block ?_)))
 refine cw_loop (T:=World×Nat×Option Addr×Nat×Nat×Nat)
  (fun⟨wr2,i,A8,n8,c8,P⟩=> [(0,.slice A n cap),(1,.int .i64 ((k:Nat):Int)),(7,.slice A7 n7 c7),(8,.slice A8 n8 c8),(9,.int .i64 ((i:Nat):Int))])
  (fun⟨wr2,i,A8,n8,c8,P⟩=>wr2)
  (fun⟨wr2,i,A8,n8,c8,P⟩=>(Ext w wr2)∧(1≤i)∧(i≤k)∧(P=x^(i-1))∧(Rd wr2 A n cap (db 4294967296 (X)))∧(Rd wr2 A7 n7 c7 (db 4294967296 (x)))∧(Rd wr2 A8 n8 c8 (db 4294967296 (P))))
  (fun⟨wr2,i,A8,n8,c8,P⟩=>k-i)
  (⟨v19,1,_,_,_,1⟩:World×Nat×Option Addr×Nat×Nat×Nat) ⟨hw2,(Nat.le_refl _),(by omega),(by rw [Nat.sub_self,Nat.pow_zero]),(rl0.ext e22),(rl7.ext e22),rd25⟩ rfl ⟨rfl,rfl,rfl,rfl,rfl,trivial⟩ ?_
 rintro⟨wr2,i,A8,n8,c8,P⟩ ⟨hw1,hi1,hik,hP,rl0,rl7,rl8⟩
 refine cw_re [(0,.slice A n cap),(1,.int .i64 ((k:Nat):Int)),(7,.slice A7 n7 c7),(8,.slice A8 n8 c8),(9,.int .i64 ((i:Nat):Int))] wr2 rfl ⟨rfl,rfl,rfl,rfl,rfl,trivial⟩ (cw_seq (cw_seq ?_))
 have hl8:=rl8.len
 have hpl:=nw_plen (i:=i-1) (N:=blen X) hx2 (by omega) hkh (by omega)
 rw [←hP,hl8] at hpl
 by_cases hik2:i<k
 · 
  refine cw_region (mv 2 rfl (wl_cmp rfl rfl rfl true (cb_lt_t (a:=i) (b:=k) rfl rfl (by omega)) (by decide) (ne_ (cw_true rfl (cw_skip (eo_then (cw_seq (cw_block (cw_region (mv 2 rfl (cl (vs:= [.slice A8 n8 c8,.slice A7 n7 c7]) hw1 (ref3_times rl8 (by omega) rl7 (by omega)) rfl (by kernel_rfl) fun xr28 v26 r28 e27 hw2=>?_)))))))))))
  obtain⟨A29,n29,c29,rfl,rd29⟩:=r28
  refine mv 1 rfl (wl_nil (eo_block_normal (eo_then (cw_region (mv 1 rfl (wl_ar rfl rfl rfl ((i+1:Nat):Int) (ai_add (a:=i) (b:=1) rfl rfl (by omega)) (by decide) (mv 1 rfl (wl_nil (eo_round (⟨v26,i+1,_,_,_,_⟩:World×Nat×Option Addr×Nat×Nat×Nat) ⟨hw2,(by omega),(by omega),(by rw [hP,←Nat.pow_succ,Nat.succ_eq_add_one,Nat.sub_add_cancel hi1,Nat.add_sub_cancel]),(rl0.ext e27),(rl7.ext e27),rd29⟩ (show k-(i+1)<k-i by omega) rfl ⟨rfl,rfl,rfl,rfl,rfl,trivial⟩)))))))))
 · 
  have hie:i=k:=by omega
  rw [hie] at hP
  have hP0:P≠0:=by rw [hP];exact Nat.pos_iff_ne_zero.1 (Nat.pow_pos hx0)
  refine cw_region (mv 2 rfl (wl_cmp rfl rfl rfl false (cb_lt_f (a:=i) (b:=k) rfl rfl (by omega)) (by decide) (ne_ (cw_false rfl (cw_exit (eo_thenX (eo_loopX (eo_block_here (eo_then (sr (mv 2 rfl (cl (vs:= [.slice A n cap,.slice A8 n8 c8]) hw1 (ref3_divide_ rl0 (by omega) rl8 (by omega) hP0) rfl (by kernel_rfl) fun xr32 v30 r32 e31 hw2=>?_))))))))))))
  obtain⟨_,_,rfl,⟨A34,n34,c34,rfl,rd34⟩,⟨A35,n35,c35,rfl,rd35⟩⟩:=r32
  refine mv 1 rfl (pu (v:= .slice A34 n34 c34) rfl (by kernel_rfl) (pu (v:= .slice A35 n35 c35) rfl (by kernel_rfl) (mv 2 rfl (ne_ (cw_seq ?_)))))
  have hlq:=rd34.len
  have hql:(db 4294967296 (X/P)).length≤n7+1:=by rw [hP];exact nw_qlen (m:=k-1) hl7 (by rw [Nat.sub_add_cancel (by omega)];exact hax) (by have:=nw_low hXb hk2 hh hhk hax;omega) hx0
  rw [hlq] at hql
  refine cw_region (mv 2 rfl (wl_ar rfl rfl rfl ((k-1:Nat):Int) (ai_sub (a:=k) (b:=1) rfl rfl (by omega) (by omega)) (by decide) (wl_pureE rfl rfl (v:= .int .u64 (IntKind.u64.wrap ((k-1:Nat):Int))) (v':= .int .u64 ((k-1:Nat):Int)) (by decide) (by kernel_rfl) (cv_u64 (by first | omega | exact (by omega))) (cl (vs:= [.slice A7 n7 c7,.int .u64 ((k-1:Nat):Int)]) hw2 (ref3_scaled (rl7.ext e31) (by omega) (Wfb_db b32 _) (by omega)) rfl (by kernel_rfl) fun xr38 v36 r38 e37 hw3=>?_))))
  obtain⟨g39,l39,rfl,gb39,hb39,hl39,hwf39,hnv39⟩:=r38
  have ge40:w.heap.size≤g39:=Nat.le_trans hw2.size gb39
  have ne41:0<cap→∀a,A=some a→a.block≠g39:=fun hc a ha=>by have:=((rl0.ext e31)).rv.blk a ha hc;omega
  have ne42:0<c7→∀a,A7=some a→a.block≠g39:=fun hc a ha=>by have:=((rl7.ext e31)).rv.blk a ha hc;omega
  have ne43:0<c8→∀a,A8=some a→a.block≠g39:=fun hc a ha=>by have:=((rl8.ext e31)).rv.blk a ha hc;omega
  have ne44:0<c34→∀a,A34=some a→a.block≠g39:=fun hc a ha=>by have:=(rd34).rv.blk a ha hc;omega
  have ne45:0<c35→∀a,A35=some a→a.block≠g39:=fun hc a ha=>by have:=(rd35).rv.blk a ha hc;omega
  refine mv 1 rfl (ne_ (sr (mv 1 rfl (ne_ (cw_seq (sr (mv 1 rfl (ne_ (cw_block ?_)))))))))
  refine cw_loop (T:=World×Nat×Nat×List Nat)
   (fun⟨wr3,j,c,l2⟩=> [(0,.slice A n cap),(1,.int .i64 ((k:Nat):Int)),(7,.slice A7 n7 c7),(10,.slice A34 n34 c34),(12,.slice (some ⟨g39,0,none⟩) (n7+1) (n7+1)),(13,.int .u64 ((c:Nat):Int)),(14,.int .i64 ((j:Nat):Int))])
   (fun⟨wr3,j,c,l2⟩=>wr3)
   (fun⟨wr3,j,c,l2⟩=>(Ext w wr3)∧(j≤n7+1)∧(c≤1)∧(Bk wr3 g39 24 (l2.map W64))∧(l2.length=n7+1)∧(Wfb 4294967296 l2)∧(∀q,j≤q→l2.getD q 0=l39.getD q 0)∧(nb 4294967296 (l2.take j)+4294967296^j*c=nb 4294967296 (l39.take j)+nb 4294967296 ((db 4294967296 (X/P)).take j))∧(Rd wr3 A n cap (db 4294967296 (X)))∧(Rd wr3 A7 n7 c7 (db 4294967296 (x)))∧(Rd wr3 A34 n34 c34 (db 4294967296 (X/P))))
   (fun⟨wr3,j,c,l2⟩=>n7+1-j)
   (⟨v36,0,0,_⟩:World×Nat×Nat×List Nat) ⟨hw3,(Nat.zero_le _),(by decide),hb39,hl39,hwf39,(fun _ _=>rfl),(by simp [nb]),(rl0.ext (e31.trans e37)),(rl7.ext (e31.trans e37)),(rd34.ext e37)⟩ rfl ⟨rfl,rfl,rfl,rfl,rfl,rfl,rfl,trivial⟩ ?_
  rintro⟨wr3,j,c,l2⟩ ⟨hw1,hjn,hc,hb2,hl2,hwq,hsm,hv2,rl0,rl7,rl10⟩
  refine cw_re [(0,.slice A n cap),(1,.int .i64 ((k:Nat):Int)),(7,.slice A7 n7 c7),(10,.slice A34 n34 c34),(12,.slice (some ⟨g39,0,none⟩) (n7+1) (n7+1)),(13,.int .u64 ((c:Nat):Int)),(14,.int .i64 ((j:Nat):Int))] wr3 rfl ⟨rfl,rfl,rfl,rfl,rfl,rfl,rfl,trivial⟩ (cw_seq (cw_seq ?_))
  by_cases hjn2:j<n7+1
  · 
   refine cw_region (mv 2 rfl (pu (v:= .int .i64 (((n7+1):Nat):Int)) rfl (by kernel_rfl) (wl_cmp rfl rfl rfl true (cb_lt_t (a:=j) (b:=n7+1) rfl rfl (by omega)) (by decide) (ne_ (cw_true rfl (cw_skip (eo_then (cw_seq (cw_block (cw_seq ?_))))))))))
   have hd:=Wfb_getD (b:=4294967296) (by decide) hwq j
   refine cw_region (mv 2 rfl (wl_idx rfl rfl rfl un_u64 sz_u64 j rfl (by omega) ⟨g39,j,none⟩ (arr_at _ _) (by decide) (wl_load rfl rfl (load_word ag_u64 hb2 (by rw [hl2];omega)) (by decide) (mv 1 rfl (wl_ar rfl rfl rfl (((l2.getD j 0)+c:Nat):Int) (au_add (a:=l2.getD j 0) (b:=c) rfl rfl (by omega)) (by decide) (mv 1 rfl (ne_ (cw_seq (cw_seq ?_)))))))))
   by_cases hjq:j<n34
   · 
    have hdq:=Wfb_getD (b:=4294967296) (by decide) (Wfb_db b32 (X/P)) j
    refine cw_region (mv 2 rfl (pu (v:= .int .i64 ((n34:Nat):Int)) rfl (by kernel_rfl) (wl_cmp rfl rfl rfl true (cb_lt_t (a:=j) (b:=n34) rfl rfl (by omega)) (by decide) (ne_ (cw_true rfl (cw_region (mv 3 rfl ?_)))))))
    obtain⟨p46,hp46,hc46,hv46⟩:=(rl10).at (i:=j) (by omega)
    refine wl_idx rfl rfl rfl un_u64 sz_u64 j rfl (by omega) p46 hp46 (by decide) (wl_load rfl rfl (load_cell1 ag_u64 hc46) (by decide) (wl_ar rfl rfl rfl ((((l2.getD j 0)+c)+((db 4294967296 (X/P)).getD j 0):Nat):Int) (au_add (a:=(l2.getD j 0)+c) (b:=(db 4294967296 (X/P)).getD j 0) rfl rfl (by omega)) (by decide) (mv 1 rfl (ne_ (sr (mv 3 rfl (wl_ar rfl rfl rfl (((((l2.getD j 0)+c)+((db 4294967296 (X/P)).getD j 0))%4294967296:Nat):Int) (au_rem (a:=((l2.getD j 0)+c)+((db 4294967296 (X/P)).getD j 0)) (b:=4294967296) rfl rfl (by omega)) (by decide) (wl_idx rfl rfl rfl un_u64 sz_u64 j rfl (by omega) ⟨g39,j,none⟩ (arr_at _ _) (by decide) (wl_stored1 rfl rfl rfl sz_u64 rfl hb2 (len_map (by rw [hl2];omega)) rfl ((l2.set j ((((l2.getD j 0)+c)+((db 4294967296 (X/P)).getD j 0))%4294967296)).map W64) (map_W64_set _ _ _) fun v47 hb49 u50 hs51=>?_)))))))))
    have hw2:=u50.ext hw1 ge40
    refine ne_ (cw_region (mv 1 rfl (wl_ar rfl rfl rfl (((((l2.getD j 0)+c)+((db 4294967296 (X/P)).getD j 0))/4294967296:Nat):Int) (au_quo (a:=((l2.getD j 0)+c)+((db 4294967296 (X/P)).getD j 0)) (b:=4294967296) rfl rfl (by omega) (by omega)) (by decide) (mv 1 rfl (wl_nil (eo_block_normal (eo_then (cw_region (mv 1 rfl (wl_ar rfl rfl rfl ((j+1:Nat):Int) (ai_add (a:=j) (b:=1) rfl rfl (by omega)) (by decide) (mv 1 rfl (wl_nil (eo_round (⟨v47,j+1,_,_⟩:World×Nat×Nat×List Nat) ⟨hw2,(by omega),(by omega),hb49,(len_set (l:=l2) (hl2)),Wfb_set hwq _ (Nat.mod_lt _ (by decide)),(push_same hsm),(nw_step hv2 (by omega) (by omega) (hsm j (Nat.le_refl _)).symm (nb_take_snoc _ _ _ (by omega)) (Nat.mod_add_div _ _)),(Rd.updL rl0 u50 ne41),(Rd.updL rl7 u50 ne42),(Rd.updL rl10 u50 ne44)⟩ (show n7+1-(j+1)<n7+1-j by omega) rfl ⟨rfl,rfl,rfl,rfl,rfl,rfl,rfl,trivial⟩)))))))))))))
   · 
    refine cw_region (mv 2 rfl (pu (v:= .int .i64 ((n34:Nat):Int)) rfl (by kernel_rfl) (wl_cmp rfl rfl rfl false (cb_lt_f (a:=j) (b:=n34) rfl rfl (by omega)) (by decide) (ne_ (cw_false rfl (cw_skip (eo_then (sr (mv 3 rfl (wl_ar rfl rfl rfl ((((l2.getD j 0)+c)%4294967296:Nat):Int) (au_rem (a:=(l2.getD j 0)+c) (b:=4294967296) rfl rfl (by omega)) (by decide) (wl_idx rfl rfl rfl un_u64 sz_u64 j rfl (by omega) ⟨g39,j,none⟩ (arr_at _ _) (by decide) (wl_stored1 rfl rfl rfl sz_u64 rfl hb2 (len_map (by rw [hl2];omega)) rfl ((l2.set j (((l2.getD j 0)+c)%4294967296)).map W64) (map_W64_set _ _ _) fun v52 hb54 u55 hs56=>?_))))))))))))
    have hw2:=u55.ext hw1 ge40
    refine ne_ (cw_region (mv 1 rfl (wl_ar rfl rfl rfl ((((l2.getD j 0)+c)/4294967296:Nat):Int) (au_quo (a:=(l2.getD j 0)+c) (b:=4294967296) rfl rfl (by omega) (by omega)) (by decide) (mv 1 rfl (wl_nil (eo_block_normal (eo_then (cw_region (mv 1 rfl (wl_ar rfl rfl rfl ((j+1:Nat):Int) (ai_add (a:=j) (b:=1) rfl rfl (by omega)) (by decide) (mv 1 rfl (wl_nil (eo_round (⟨v52,j+1,_,_⟩:World×Nat×Nat×List Nat) ⟨hw2,(by omega),(by omega),hb54,(len_set (l:=l2) (hl2)),Wfb_set hwq _ (Nat.mod_lt _ (by decide)),(push_same hsm),(nw_step hv2 (by omega) (by omega) (hsm j (Nat.le_refl _)).symm (y:=0) (by rw [List.take_of_length_le (by omega),List.take_of_length_le (by omega),Nat.mul_zero,Nat.add_zero]) (Nat.mod_add_div _ _)),(Rd.updL rl0 u55 ne41),(Rd.updL rl7 u55 ne42),(Rd.updL rl10 u55 ne44)⟩ (show n7+1-(j+1)<n7+1-j by omega) rfl ⟨rfl,rfl,rfl,rfl,rfl,rfl,rfl,trivial⟩)))))))))))))
  · 
   have hje:j=n7+1:=by omega
   rw [hje] at hv2
   rw [List.take_of_length_le (by omega),List.take_of_length_le (l:=l39) (by omega),List.take_of_length_le (l:=db 4294967296 (X/P)) (by omega),hnv39,nb_db b32,nb_db b32] at hv2
   refine cw_region (mv 2 rfl (pu (v:= .int .i64 (((n7+1):Nat):Int)) rfl (by kernel_rfl) (wl_cmp rfl rfl rfl false (cb_lt_f (a:=j) (b:=n7+1) rfl rfl (by omega)) (by decide) (ne_ (cw_false rfl (cw_exit (eo_thenX (eo_loopX (eo_block_here (eo_then (sr (mv 2 rfl (wl_bslice rfl rfl (by decide) (k:=1) (e:=24) [.int .u64 ((c:Nat):Int)] (fun _=>by kernel_rfl) fun g57 v58 nb59=>?_)))))))))))))
   have o60:=O1.mk_ (x:=c) (b:=w.heap.size) nb59 hw1.size
   have e61:=nb59.ext
   have hw2:=hw1.trans e61
   refine wl_appF (xs:=l2) rfl rfl rfl un_u64 info64 rfl (by decide) (hb2.ext e61) hl2 o60 (by omega) (by decide) fun A64 c65 v66 ho67 e68=>?_
   have hw3:=hw2.trans e68
   have rdho67:=ho67.rd (Wfb_snoc3 hwq (by omega)).wf
   have leho67:=ho67.rv.le
   refine mv 1 rfl (ne_ (cw_seq ?_))
   have hwS:Wfb 4294967296 (l2++ [c]):=Wfb_snoc3 hwq (by omega)
   have hS:nb 4294967296 (l2++ [c])=x*(k-1)+X/P:=by rw [nb_snoc3,hl2];exact hv2
   refine cw_region (mv 1 rfl (cl (vs:= [.slice A64 ((n7+1)+1) c65]) hw3 (ref3_Trim rdho67 (by omega)) rfl (by kernel_rfl) fun xr71 v69 r71 e70 hw4=>?_))
   obtain⟨k72,rfl,hk72,ht72,hv72⟩:=r71
   have rd72:=((rdho67.ext e70)).take hk72 (by omega) (Nat.le_refl _)
   refine mv 1 rfl (wl_pureE rfl rfl (v:= .int .u64 (IntKind.u64.wrap ((k:Nat):Int))) (v':= .int .u64 ((k:Nat):Int)) (by decide) (by kernel_rfl) (cv_u64 (by first | omega | exact (by omega))) (wl_bslice rfl rfl (by decide) (k:=1) (e:=24) [.int .u64 ((k:Nat):Int)] (fun _=>by kernel_rfl) fun g73 v74 nb75=>?_))
   have o76:=O1.mk_ (x:=k) (b:=w.heap.size) nb75 hw4.size
   have e77:=nb75.ext
   have hw5:=hw4.trans e77
   refine cl (vs:= [.slice A64 k72 c65,.slice (some ⟨g73,0,none⟩) 1 1]) hw5 (ref3_divide_ (by have h:=((rdho67.ext (e70.trans e77))).trim hwS hk72 ht72 hv72;rw [hS] at h;exact h) (by omega) (one_rd o76 (by omega) (by omega)) (by decide) (by omega)) rfl (by kernel_rfl) fun xr82 v80 r82 e81 hw6=>?_
   obtain⟨_,_,rfl,⟨A84,n84,c84,rfl,rd84⟩,⟨A85,n85,c85,rfl,rd85⟩⟩:=r82
   refine mv 1 rfl (pu (v:= .slice A84 n84 c84) rfl (by kernel_rfl) (pu (v:= .slice A85 n85 c85) rfl (by kernel_rfl) (mv 2 rfl (ne_ (cw_seq ?_)))))
   have hm:k-1+1=k:=by omega
   have hly:=rd84.len
   have hyl:(db 4294967296 ((x*(k-1)+X/P)/k)).length≤n7+2:=by refine len_db_le b32 ?_;have h1:=nb_lt hwS;rw [hS,List.length_append,hl2] at h1;exact Nat.lt_of_le_of_lt (Nat.div_le_self _ _) h1
   by_cases hfl:(x*(k-1)+X/P)/k<x
   · 
    have hay:X<((x*(k-1)+X/P)/k+1)^k:=by have h:=newton_above (X:=X) (s:=x) (q:=X/P) (m:=k-1) (by rw [←hP];have:=Nat.lt_mul_div_succ X (Nat.pos_of_ne_zero hP0);rwa [Nat.mul_comm] at this);rwa [hm] at h
    refine cw_region (mv 2 rfl (cl (vs:= [.slice A84 n84 c84,.slice A7 n7 c7]) hw6 (ref3_below' (b:=true) rd84 (by omega) (rl7.ext (e61.trans (e68.trans (e70.trans (e77.trans e81))))) (by omega) (by rw [decide_eq_true hfl])) rfl (by kernel_rfl) fun xr88 v86 r88 e87 hw7=>?_))
    obtain rfl:=r88
    refine mv 1 rfl (ne_ (cw_seq (sr (mv 1 rfl (pu (v:= .bool false) rfl (by kernel_rfl) (ne_ (cw_false rfl (cw_skip (eo_then (cw_region (mv 2 rfl (wl_nil (eo_block_normal ?_)))))))))))))
    refine eo_round (⟨v86,_,_,_,_⟩:World×Option Addr×Nat×Nat×Nat) ⟨hw7,hay,(by omega),(rl0.ext (e61.trans (e68.trans (e70.trans (e77.trans (e81.trans e87)))))),(rd84.ext e87)⟩ hfl rfl ⟨rfl,rfl,rfl,trivial⟩
   · 
    have hst:x^k≤X:=by have h:=newton_stop (X:=X) (s:=x) (q:=X/P) (m:=k-1) hx0 (by rw [hP]) (by rw [hm];omega);rwa [hm] at h
    refine cw_region (mv 2 rfl (cl (vs:= [.slice A84 n84 c84,.slice A7 n7 c7]) hw6 (ref3_below' (b:=false) rd84 (by omega) (rl7.ext (e61.trans (e68.trans (e70.trans (e77.trans e81))))) (by omega) (by rw [decide_eq_false hfl])) rfl (by kernel_rfl) fun xr91 v89 r91 e90 hw7=>?_))
    obtain rfl:=r91
    refine mv 1 rfl (ne_ (cw_seq (sr (mv 1 rfl (pu (v:= .bool true) rfl (by kernel_rfl) (ne_ (cw_true rfl (sr (mv 1 rfl (cl (vs:= [.slice A7 n7 c7]) hw7 (ref3_words_ hw7.size (rl7.ext (e61.trans (e68.trans (e70.trans (e77.trans (e81.trans e90)))))) (by omega)) rfl (by kernel_rfl) fun xr94 v92 r94 e93 hw8=>?_))))))))))
    obtain⟨A95,n95,c95,rfl,j95,o95⟩:=r94
    refine mv 1 rfl (ne_ (cw_ret (eo_thenR (eo_block_ret (eo_loopR (eo_block_ret (eo_ret [.slice A95 n95 c95] rfl ⟨rfl,trivial⟩ ?_)))))))
    exact⟨x,⟨hst,hax⟩,_,rfl,⟨_,_,_,rfl,j95,o95⟩,hw8⟩
theorem ref3_bits {w:World}{A:Option Addr}{n cap X:Nat}(hx:Rd w A n cap (db 4294967296 X)) (hln:n≤274877906944) (hbb:blen X≤35184372088864):Calls Try.prog 94 #[.slice A n cap] w (Gv w (Is (.int .i64 ((blen X:Nat):Int)))):=by
 have h:=ref3_bitsOf hx hln (Wfb_db b32 _) (by rw [nb_db b32];exact hbb)
 rwa [nb_db b32] at h
theorem ref3_atMost' {w:World}{A D:Option Addr}{n cap m cd R Y k:Nat}{b:Bool}(hx:Rd w A n cap (db 4294967296 R)) (hln:n≤1073741824) (hy:Rd w D m cd (db 4294967296 Y)) (hlm:m≤1073741824) (hk1:1≤k) (hk2:k≤9223372036854775807) (hb:decide (R^k≤Y)=b):
  Calls Try.prog 96 #[.slice A n cap,.int .i64 ((k:Nat):Int),.slice D m cd] w (Gv w (Is (.bool b))):=hb▸ref3_atMost hx hln hy hlm hk1 hk2
theorem nb_getD3 {b:Nat}(hb:2≤b):∀{l:List Nat},Wfb b l→∀j,l.getD j 0=nb b l/b^j%b:=by
 intro l
 induction l with
 | nil=>intro _ j;rw [nb_nil,Nat.zero_div,Nat.zero_mod];rfl
 | cons x r ih=>
  intro h j
  have hx:x<b:=h x (by simp)
  rw [nb_cons]
  cases j with
  | zero=>rw [Nat.pow_zero,Nat.div_one,Nat.add_mul_mod_self_left,Nat.mod_eq_of_lt hx];rfl
  | succ j=>
   rw [Nat.pow_succ,Nat.mul_comm (b^j),←Nat.div_div_eq_div_mul,Nat.add_mul_div_left _ _ (by omega),Nat.div_eq_of_lt hx,Nat.zero_add]
   exact ih (fun y hy=>h y (by simp [hy])) j
theorem bit_free {l:List Nat}{j:Nat}(hw:Wfb 4294967296 l) (h:nb 4294967296 l%2^(j+1)=0):l.getD (j/32) 0+2^(j%32)<4294967296:=by
 rw [nb_getD3 b32 hw]
 obtain⟨c,hc⟩:=Nat.dvd_of_mod_eq_zero h
 have e1:(4294967296:Nat)^(j/32)=2^(32*(j/32)):=by rw [Nat.pow_mul]
 have e2:(2:Nat)^(j+1)=2^(32*(j/32))*2^(j%32+1):=by rw [←Nat.pow_add];congr 1;omega
 rw [hc,e1,e2,Nat.mul_assoc,Nat.mul_div_cancel_left _ (Nat.two_pow_pos _)]
 have e3:(4294967296:Nat)=2^(j%32+1)*2^(31-j%32):=by rw [←Nat.pow_add,show j%32+1+(31-j%32)=32 by omega]
 have h1:2^(j%32+1)*c%4294967296=2^(j%32+1)*(c%2^(31-j%32)):=by rw [e3,Nat.mul_mod_mul_left]
 rw [h1]
 have h2:c%2^(31-j%32)+1≤2^(31-j%32):=Nat.mod_lt _ (Nat.two_pow_pos _)
 have h3:=Nat.mul_le_mul_left (2^(j%32+1)) h2
 rw [←e3,Nat.mul_add,Nat.mul_one] at h3
 have h4:2^(j%32)<2^(j%32+1):=Nat.pow_lt_pow_right (by decide) (by omega)
 omega
theorem bit_set {l:List Nat}{j:Nat}(hj:j/32<l.length):nb 4294967296 (l.set (j/32) (l.getD (j/32) 0+2^(j%32)))=nb 4294967296 l+2^j:=by
 have h:=nb_set 4294967296 hj (l.getD (j/32) 0+2^(j%32))
 have e:(4294967296:Nat)^(j/32)*2^(j%32)=2^j:=by
  rw [show (4294967296:Nat)=2^32 from rfl,←Nat.pow_mul,←Nat.pow_add,Nat.div_add_mod]
 rw [Nat.mul_add,e] at h
 omega
theorem rt_mul {r j:Nat}(h:r%2^(j+1)=0):r%2^j=0∧(r+2^j)%2^j=0:=by
 have h1:r%2^j=0:=by
  obtain⟨c,rfl⟩:=Nat.dvd_of_mod_eq_zero h
  rw [Nat.pow_succ,Nat.mul_assoc,Nat.mul_mod_right]
 exact⟨h1,by rw [Nat.add_mod_right];exact h1⟩
theorem set_back {l:List Nat}{q v:Nat}(hq:q<l.length):(l.set q (l.getD q 0+v)).set q ((l.set q (l.getD q 0+v)).getD q 0-v)=l:=by
 rw [getD_set_eq hq,Nat.add_sub_cancel,List.set_set]
 exact List.ext_getElem (by simp) fun i h1 h2=>by
  rw [List.getElem_set]
  split
  ·rename_i h;subst h;rw [List.getD_eq_getElem?_getD,List.getElem?_eq_getElem h2];rfl
  ·rfl
set_option maxHeartbeats 4000000 in
theorem ref3_Root_bad {w:World}{A:Option Addr}{n cap:Nat}{k:Int}(hk:k<1):
    Calls Try.prog 65 #[.slice A n cap,.int .i64 k] w (Gv w (Is (.tuple #[.slice none 0 0,.int .i64 3]))):=by
 refine sx_enter Try.func65 rfl (n:=83) rfl (bq rfl) (args:= [.slice A n cap,.int .i64 k]) (cw_keep [(0,.slice A n cap),(1,.int .i64 k)] ⟨rfl,rfl,trivial⟩ (sr (mv 2 rfl (ne_ (cw_seq (sr (mv 1 rfl (wl_cmp rfl rfl rfl true (lt_t hk) (by decide) (ne_ (cw_true rfl (sr (mv 2 rfl (wl_nil ?_)))))))))))))
 refine eo_then (cw_ret (eo_thenR (eo_ret [S0,.int .i64 3] rfl ⟨rfl,rfl,trivial⟩ ?_)))
 exact⟨_,rfl,rfl,(Ext.refl w)⟩
set_option maxHeartbeats 4000000 in
theorem ref3_Root {w:World}{A:Option Addr}{n cap K:Nat}{xs:List Nat}(hx:Rd w A n cap xs) (hln:n≤268435456) (hK:1≤K) (hK2:K≤9223372036854775807):
    Calls Try.prog 65 #[.slice A n cap,.int .i64 ((K:Nat):Int)] w (fun e w'=>∃r,IsRoot (nv xs) K r∧Gv w (T2 (WR w.heap.size r) (Is (.int .i64 0))) e w'):=by
 have hbx:blen (nv xs)≤17179869184:=by have h:=blen_le (n:=nv xs) (k:=64*n) (by rw [Nat.pow_mul,←WB_pow,←hx.len];exact nv_lt hx.wf);omega
 refine sx_enter Try.func65 rfl (n:=83) rfl (bq rfl) (args:= [.slice A n cap,.int .i64 ((K:Nat):Int)]) (cw_keep [(0,.slice A n cap),(1,.int .i64 ((K:Nat):Int))] ⟨rfl,rfl,trivial⟩ (sr (mv 2 rfl (ne_ (cw_seq (sr (mv 1 rfl (wl_cmp rfl rfl rfl false (lt_f (by omega)) (by decide) (ne_ (cw_false rfl (cw_skip (eo_then (cw_seq ?_)))))))))))))
 refine cw_region (mv 1 rfl (cl (vs:= [.slice A n cap]) (Ext.refl w) (ref3_halves hx (by omega)) rfl (by kernel_rfl) fun xr3 v1 r3 e2 hw1=>?_))
 obtain⟨A4,n4,c4,rfl,rd4⟩:=r3
 refine mv 1 rfl (ne_ (cw_seq ?_))
 have hld:=rd4.len
 have hdl:=rd4.hl hx (Nat.le_refl _)
 refine cw_region (mv 1 rfl (cl (vs:= [.slice A4 n4 c4]) hw1 (ref3_bits rd4 (by omega) (by omega)) rfl (by kernel_rfl) fun xr7 v5 r7 e6 hw2=>?_))
 obtain rfl:=r7
 refine mv 1 rfl (ne_ (cw_seq (cw_seq ?_)))
 by_cases hz:blen (nv xs)=0
 · 
  have hX0:nv xs=0:=blen_eq_zero.1 hz
  refine cw_region (mv 1 rfl (wl_cmp rfl rfl rfl true (cb_eq_t (a:=blen (nv xs)) (b:=0) rfl rfl (by omega)) (by decide) (ne_ (cw_true rfl (sr (mv 2 rfl (ne_ (cw_ret (eo_thenR (eo_ret [S0,I0] rfl ⟨rfl,rfl,trivial⟩ ?_))))))))))
  exact⟨0,(by rw [hX0];exact IsRoot.zero hK),_,rfl,⟨_,_,rfl,⟨_,_,_,rfl,rfl,Own.nil _ _ _ _⟩,rfl⟩,hw2⟩
 · 
  have hX0:nv xs≠0:=fun e=>hz (by rw [e,blen_zero])
  refine cw_region (mv 1 rfl (wl_cmp rfl rfl rfl false (cb_eq_f (a:=blen (nv xs)) (b:=0) rfl rfl (by omega)) (by decide) (ne_ (cw_false rfl (cw_skip (eo_then (cw_seq (cw_seq ?_))))))))
  by_cases ho:K=1
  · 
   refine cw_region (mv 1 rfl (wl_cmp rfl rfl rfl true (cb_eq_t (a:=K) (b:=1) rfl rfl (by omega)) (by decide) (ne_ (cw_true rfl (sr (mv 1 rfl (cl (vs:= [.slice A4 n4 c4]) hw2 (ref3_words_ hw2.size (rd4.ext e6) (by omega)) rfl (by kernel_rfl) fun xr10 v8 r10 e9 hw3=>?_)))))))
   obtain⟨A11,n11,c11,rfl,j11,o11⟩:=r10
   refine mv 2 rfl (ne_ (cw_ret (eo_thenR (eo_ret [.slice A11 n11 c11,I0] rfl ⟨rfl,rfl,trivial⟩ ?_))))
   exact⟨(nv xs),(by rw [ho];exact IsRoot.one),_,rfl,⟨_,_,rfl,⟨_,_,_,rfl,j11,o11⟩,rfl⟩,hw3⟩
  · 
   refine cw_region (mv 1 rfl (wl_cmp rfl rfl rfl false (cb_eq_f (a:=K) (b:=1) rfl rfl (by omega)) (by decide) (ne_ (cw_false rfl (cw_skip (eo_then (cw_seq (cw_seq ?_))))))))
   by_cases hg:K≥blen (nv xs)
   · 
    refine cw_region (mv 2 rfl (wl_cmp rfl rfl rfl true (cb_ge_t (a:=K) (b:=blen (nv xs)) rfl rfl (by omega)) (by decide) (ne_ (cw_true rfl (sr (wl_bslice rfl rfl (by decide) (k:=1) (e:=24) [.int .u64 1] (fun _=>by kernel_rfl) fun g12 v13 nb14=>?_))))))
    have o15:=O1.mk_ (x:=1) (b:=w.heap.size) nb14 hw2.size
    have e16:=nb14.ext
    have hw3:=hw2.trans e16
    have o18:=own1_wd o15 (show 1≤18446744073709551615 by decide) (show 1≠0 by decide)
    have j17:=len1 (show 1≤18446744073709551615 by decide) (show 1≠0 by decide)
    refine mv 2 rfl (ne_ (cw_ret (eo_thenR (eo_ret [.slice (some ⟨g12,0,none⟩) 1 1,I0] rfl ⟨rfl,rfl,trivial⟩ ?_))))
    exact⟨1,⟨by rw [Nat.one_pow];omega,Nat.lt_of_lt_of_le (lt_blen _) (Nat.pow_le_pow_right (by decide) hg)⟩,_,rfl,⟨_,_,rfl,⟨_,_,_,rfl,j17,o18⟩,rfl⟩,hw3⟩
   · 
    refine cw_region (mv 2 rfl (wl_cmp rfl rfl rfl false (cb_ge_f (a:=K) (b:=blen (nv xs)) rfl rfl (by omega)) (by decide) (ne_ (cw_false rfl (cw_skip (eo_then (sr (mv 2 rfl (wl_ar rfl rfl rfl (((blen (nv xs))/K:Nat):Int) (ai_quo (a:=blen (nv xs)) (b:=K) rfl rfl (by omega) (by omega)) (by decide) (mv 1 rfl (ne_ (cw_seq (cw_seq ?_)))))))))))))
    have hhb:blen (nv xs)/K≤blen (nv xs):=Nat.div_le_self _ _
    by_cases hhk:(blen (nv xs))/K>K
    · 
     refine cw_region (mv 2 rfl (wl_cmp rfl rfl rfl true (cb_gt_t (a:=(blen (nv xs))/K) (b:=K) rfl rfl (by omega)) (by decide) (ne_ (cw_true rfl (sr (mv 3 rfl (wl_call rfl rfl (vs:= [.slice A4 n4 c4,.int .i64 ((K:Nat):Int),.int .i64 (((blen (nv xs))/K:Nat):Int)]) (by kernel_rfl) (by decide) (ref3_newton (rd4.ext e6) (by omega) hX0 (by omega) rfl hhk (by omega)) ?_)))))))
     rintro _ v19 ⟨rn22,p23,xr21,rfl,r21,e20⟩
     refine ret_intro ?_
     have hw3:=hw2.trans e20
     obtain⟨A24,n24,c24,rfl,j24,o24⟩:=r21
     refine mv 2 rfl (ne_ (cw_ret (eo_thenR (eo_ret [.slice A24 n24 c24,I0] rfl ⟨rfl,rfl,trivial⟩ ?_))))
     exact⟨rn22,p23,_,rfl,⟨_,_,rfl,⟨_,_,_,rfl,j24,(o24).mono hw2.size⟩,rfl⟩,hw3⟩
    · 
     refine cw_region (mv 2 rfl (wl_cmp rfl rfl rfl false (cb_gt_f (a:=(blen (nv xs))/K) (b:=K) rfl rfl (by omega)) (by decide) (ne_ (cw_false rfl (cw_skip (eo_then (sr (mv 1 rfl (wl_ar rfl rfl rfl ((((blen (nv xs))/K)/32:Nat):Int) (ai_quo (a:=(blen (nv xs))/K) (b:=32) rfl rfl (by omega) (by omega)) (by decide) (wl_ar rfl rfl rfl (((((blen (nv xs))/K)/32)+1:Nat):Int) (ai_add (a:=((blen (nv xs))/K)/32) (b:=1) rfl rfl (by omega)) (by decide) (wl_make rfl (k:=(((blen (nv xs))/K)/32)+1) rfl rfl rfl un_u64 info64 rfl (by decide) (by omega) (by decide) fun g25 v26 hg27 hb28 e29=>?_)))))))))))
     rw [replicate_W64] at hb28
     have ge30:w.heap.size≤g25:=by rw [←hg27];exact hw2.size
     have ne32:0<cap→∀a,A=some a→a.block≠g25:=fun hc a ha=>by have:=((hx.ext (e2.trans e6))).rv.blk a ha hc;omega
     have ne33:0<c4→∀a,A4=some a→a.block≠g25:=fun hc a ha=>by have:=((rd4.ext e6)).rv.blk a ha hc;omega
     clear hg27
     have hw3:=hw2.trans e29
     refine mv 1 rfl (ne_ (cw_seq (sr (mv 2 rfl (ne_ (cw_block ?_))))))
     have hz0:nb 4294967296 (List.replicate ((blen (nv xs)/K)/32+1) 0)=0:=nb_zeros _ _
     refine cw_loop (T:=World×Nat×Int×List Nat)
      (fun⟨wr,k,ii,l⟩=> [(1,.int .i64 ((K:Nat):Int)),(6,.slice A4 n4 c4),(9,.slice (some ⟨g25,0,none⟩) ((((blen (nv xs))/K)/32)+1) ((((blen (nv xs))/K)/32)+1)),(10,.int .i64 ii)])
      (fun⟨wr,k,ii,l⟩=>wr)
      (fun⟨wr,k,ii,l⟩=>(Ext w wr)∧(k≤(blen (nv xs)/K)+1)∧(ii=(k:Int)-1)∧(Bk wr g25 24 (l.map W64))∧(l.length=(blen (nv xs)/K)/32+1)∧(Wfb 4294967296 l)∧(nb 4294967296 l^K≤nv xs)∧(nv xs<(nb 4294967296 l+2^k)^K)∧(nb 4294967296 l%2^k=0)∧(nb 4294967296 l+2^k≤2^((blen (nv xs)/K)+1))∧(Rd wr A4 n4 c4 (db 4294967296 (nv xs))))
      (fun⟨wr,k,ii,l⟩=>k)
      (⟨v26,(blen (nv xs)/K)+1,_,_⟩:World×Nat×Int×List Nat) ⟨hw3,(Nat.le_refl _),(by omega),hb28,(List.length_replicate (n:=(((blen (nv xs))/K)/32)+1) (a:=0)),(Wfb_zeros (by decide) _),(by rw [hz0,Nat.zero_pow (by omega)];exact Nat.zero_le _),(by rw [hz0,Nat.zero_add,←Nat.pow_mul];refine Nat.lt_of_lt_of_le (lt_blen _) (Nat.pow_le_pow_right (by decide) ?_);have:=Nat.lt_mul_div_succ (blen (nv xs)) (show 0<K by omega);rw [Nat.mul_comm];omega),(by rw [hz0];exact Nat.zero_mod _),(by rw [hz0];omega),(rd4.ext (e6.trans e29))⟩ rfl ⟨rfl,rfl,rfl,rfl,trivial⟩ ?_
     rintro⟨wr,k,ii,l⟩ ⟨hw1,hk,hii,hb,hl,hwf,hlo,hhi,hmu,hup,rl6⟩
     refine cw_re [(1,.int .i64 ((K:Nat):Int)),(6,.slice A4 n4 c4),(9,.slice (some ⟨g25,0,none⟩) ((((blen (nv xs))/K)/32)+1) ((((blen (nv xs))/K)/32)+1)),(10,.int .i64 ii)] wr rfl ⟨rfl,rfl,rfl,rfl,trivial⟩ (cw_seq (cw_seq ?_))
     by_cases hk0:0<k
     · 
      obtain⟨j,rfl⟩:∃j,k=j+1:=⟨k-1,by omega⟩
      obtain rfl:ii=(j:Int):=by omega
      refine cw_region (mv 1 rfl (wl_cmp rfl rfl rfl true (cb_ge_t (a:=j) (b:=0) rfl rfl (by omega)) (by decide) (ne_ (cw_true rfl (cw_skip (eo_then (cw_seq (cw_block (cw_seq ?_)))))))))
      have hp31:2^(j%32)≤2^31:=Nat.pow_le_pow_right (by decide) (by omega)
      refine cw_region (mv 1 rfl (wl_ar rfl rfl rfl ((j%32:Nat):Int) (au_rem (a:=j) (b:=32) rfl rfl (by omega)) (by decide) (wl_pureE rfl rfl (v:= .int .u64 (IntKind.u64.wrap ((j%32:Nat):Int))) (v':= .int .u64 ((j%32:Nat):Int)) (by decide) (by kernel_rfl) (cv_u64 (by first | omega | exact (by omega))) (wl_op rfl rfl rfl (r:= .int .u64 ((2^(j%32):Nat):Int)) rfl (fun w=>u64_shl1 (s:=j%32) (by omega) _ _ w) (by decide) (mv 1 rfl (ne_ (cw_seq ?_)))))))
      have hfree:=bit_free hwf hmu
      have hjl:j/32<l.length:=by omega
      have hbs:=bit_set hjl
      refine cw_region (mv 2 rfl (wl_ar rfl rfl rfl ((j/32:Nat):Int) (ai_quo (a:=j) (b:=32) rfl rfl (by omega) (by omega)) (by decide) (mv 2 rfl (wl_ar rfl rfl rfl ((j/32:Nat):Int) (ai_quo (a:=j) (b:=32) rfl rfl (by omega) (by omega)) (by decide) (wl_idx rfl rfl rfl un_u64 sz_u64 (j/32) rfl (by omega) ⟨g25,j/32,none⟩ (arr_at _ _) (by decide) (wl_load rfl rfl (load_word ag_u64 hb (by rw [hl];omega)) (by decide) (mv 1 rfl (wl_ar rfl rfl rfl (((l.getD (j/32) 0)+(2^(j%32)):Nat):Int) (au_add (a:=l.getD (j/32) 0) (b:=2^(j%32)) rfl rfl (by omega)) (by decide) (wl_idx rfl rfl rfl un_u64 sz_u64 (j/32) rfl (by omega) ⟨g25,j/32,none⟩ (arr_at _ _) (by decide) ?_)))))))))
      have hb35:=hb
      refine wl_stored1 rfl rfl rfl sz_u64 rfl hb35 (len_map (by rw [hl];omega)) rfl ((l.set (j/32) ((l.getD (j/32) 0)+(2^(j%32)))).map W64) (map_W64_set _ _ _) fun v34 hb36 u37 hs38=>?_
      have hw2:=u37.ext hw1 ge30
      refine ne_ (cw_seq ?_)
      have hwf2:Wfb 4294967296 (l.set (j/32) ((l.getD (j/32) 0)+(2^(j%32)))):=Wfb_set hwf _ hfree
      by_cases hfit:nb 4294967296 (l.set (j/32) ((l.getD (j/32) 0)+(2^(j%32))))^K≤nv xs
      · 
       have hfit1:=hfit
       rw [hbs] at hfit
       refine cw_region (mv 1 rfl (cl (vs:= [.slice (some ⟨g25,0,none⟩) ((((blen (nv xs))/K)/32)+1) ((((blen (nv xs))/K)/32)+1)]) hw2 (ref3_Trim (hb36.rd0 hwf2.wf (len_set (l:=l) (hl)) (by omega)) (by omega)) rfl (by kernel_rfl) fun xr41 v39 r41 e40 hw3=>?_))
       obtain⟨k42,rfl,hk42,ht42,hv42⟩:=r41
       refine mv 2 rfl (cl (vs:= [.slice (some ⟨g25,0,none⟩) k42 ((((blen (nv xs))/K)/32)+1),.int .i64 ((K:Nat):Int),.slice A4 n4 c4]) hw3 (ref3_atMost' (b:=true) (((hb36.ext e40).rd0 hwf2.wf (len_set (l:=l) (hl)) (by omega)).trim hwf2 hk42 ht42 hv42) (by omega) ((Rd.updL rl6 u37 ne33).ext e40) (by omega) (by omega) (by omega) (by rw [decide_eq_true hfit1])) rfl (by kernel_rfl) fun xr45 v43 r45 e44 hw4=>?_)
       obtain rfl:=r45
       refine mv 1 rfl (ne_ (sr (mv 1 rfl (pu (v:= .bool false) rfl (by kernel_rfl) (ne_ (cw_false rfl (cw_skip (eo_block_normal (eo_then (cw_region (mv 1 rfl (wl_ar rfl rfl rfl (((j:Nat):Int)-1) (ar_i64s rfl (by omega) (by omega)) (by decide) (mv 1 rfl ?_)))))))))))))
       refine wl_nil (eo_round (⟨v43,j,_,_⟩:World×Nat×Int×List Nat) ⟨hw4,(by omega),rfl,(hb36.ext (e40.trans e44)),(len_set (l:=l) (hl)),hwf2,(by rw [hbs];exact hfit),(by rw [hbs,Nat.add_assoc,←Nat.two_mul,←Nat.pow_succ'];exact hhi),(by rw [hbs];exact (rt_mul hmu).2),(by rw [hbs,Nat.add_assoc,←Nat.two_mul,←Nat.pow_succ'];exact hup),((Rd.updL rl6 u37 ne33).ext (e40.trans e44))⟩ (show j<j+1 by omega) rfl ⟨rfl,rfl,rfl,rfl,trivial⟩)
      · 
       refine cw_region (mv 1 rfl (cl (vs:= [.slice (some ⟨g25,0,none⟩) ((((blen (nv xs))/K)/32)+1) ((((blen (nv xs))/K)/32)+1)]) hw2 (ref3_Trim (hb36.rd0 hwf2.wf (len_set (l:=l) (hl)) (by omega)) (by omega)) rfl (by kernel_rfl) fun xr48 v46 r48 e47 hw3=>?_))
       obtain⟨k49,rfl,hk49,ht49,hv49⟩:=r48
       refine mv 2 rfl (cl (vs:= [.slice (some ⟨g25,0,none⟩) k49 ((((blen (nv xs))/K)/32)+1),.int .i64 ((K:Nat):Int),.slice A4 n4 c4]) hw3 (ref3_atMost' (b:=false) (((hb36.ext e47).rd0 hwf2.wf (len_set (l:=l) (hl)) (by omega)).trim hwf2 hk49 ht49 hv49) (by omega) ((Rd.updL rl6 u37 ne33).ext e47) (by omega) (by omega) (by omega) (by rw [decide_eq_false hfit])) rfl (by kernel_rfl) fun xr52 v50 r52 e51 hw4=>?_)
       obtain rfl:=r52
       refine mv 1 rfl (ne_ (sr (mv 1 rfl (pu (v:= .bool true) rfl (by kernel_rfl) (ne_ (cw_true rfl ?_))))))
       have hgb:(l.set (j/32) ((l.getD (j/32) 0)+(2^(j%32)))).getD (j/32) 0=l.getD (j/32) 0+2^(j%32):=getD_set_eq hjl _
       refine cw_region (mv 2 rfl (wl_ar rfl rfl rfl ((j/32:Nat):Int) (ai_quo (a:=j) (b:=32) rfl rfl (by omega) (by omega)) (by decide) (mv 2 rfl (wl_ar rfl rfl rfl ((j/32:Nat):Int) (ai_quo (a:=j) (b:=32) rfl rfl (by omega) (by omega)) (by decide) (wl_idx rfl rfl rfl un_u64 sz_u64 (j/32) rfl (by omega) ⟨g25,j/32,none⟩ (arr_at _ _) (by decide) (wl_load rfl rfl (load_word ag_u64 (hb36.ext (e47.trans e51)) (by rw [(len_set (l:=l) (hl))];omega)) (by decide) (mv 1 rfl (wl_ar rfl rfl rfl ((((l.set (j/32) ((l.getD (j/32) 0)+(2^(j%32)))).getD (j/32) 0)-(2^(j%32)):Nat):Int) (au_sub (a:=(l.set (j/32) ((l.getD (j/32) 0)+(2^(j%32)))).getD (j/32) 0) (b:=2^(j%32)) rfl rfl (by omega) (by omega)) (by decide) (wl_idx rfl rfl rfl un_u64 sz_u64 (j/32) rfl (by omega) ⟨g25,j/32,none⟩ (arr_at _ _) (by decide) ?_)))))))))
       have hb54:=(hb36.ext (e47.trans e51))
       refine wl_stored1 rfl rfl rfl sz_u64 rfl hb54 (len_map (by rw [(len_set (l:=l) (hl))];omega)) rfl (((l.set (j/32) ((l.getD (j/32) 0)+(2^(j%32)))).set (j/32) (((l.set (j/32) ((l.getD (j/32) 0)+(2^(j%32)))).getD (j/32) 0)-(2^(j%32)))).map W64) (map_W64_set _ _ _) fun v53 hb55 u56 hs57=>?_
       have hw5:=u56.ext hw4 ge30
       refine wl_nil (eo_block_normal (eo_then ?_))
       have hbk:=hb55
       rw [set_back hjl] at hbk
       refine cw_region (mv 1 rfl (wl_ar rfl rfl rfl (((j:Nat):Int)-1) (ar_i64s rfl (by omega) (by omega)) (by decide) (mv 1 rfl (wl_nil (eo_round (⟨v53,j,_,l⟩:World×Nat×Int×List Nat) ⟨hw5,(by omega),rfl,hbk,hl,hwf,hlo,(by rw [hbs] at hfit;omega),(rt_mul hmu).1,(by rw [Nat.pow_succ] at hup;omega),(Rd.updL ((Rd.updL rl6 u37 ne33).ext (e47.trans e51)) u56 ne33)⟩ (show j<j+1 by omega) rfl ⟨rfl,rfl,rfl,rfl,trivial⟩)))))
     · 
      obtain rfl:k=0:=by omega
      refine cw_region (mv 1 rfl (wl_cmp rfl rfl rfl false (ge_f (by omega)) (by decide) (ne_ (cw_false rfl (cw_exit (eo_thenX (eo_loopX (eo_block_here (eo_then (sr (mv 1 rfl (cl (vs:= [.slice (some ⟨g25,0,none⟩) ((((blen (nv xs))/K)/32)+1) ((((blen (nv xs))/K)/32)+1)]) hw1 (ref3_words (hb.rd0 hwf.wf hl (by omega)) (by omega) hwf) rfl (by kernel_rfl) fun xr60 v58 r60 e59 hw2=>?_))))))))))))
      obtain⟨A61,n61,c61,rfl,j61,o61⟩:=r60
      refine mv 2 rfl (ne_ (cw_ret (eo_ret [.slice A61 n61 c61,I0] rfl ⟨rfl,rfl,trivial⟩ ?_)))
      exact⟨(nb 4294967296 l),⟨hlo,by rw [Nat.pow_zero] at hhi;exact hhi⟩,_,rfl,⟨_,_,rfl,⟨_,_,_,rfl,j61,(o61).mono hw1.size⟩,rfl⟩,hw2⟩
theorem i64_shl1 {s:Nat}(hs:s≤62) (P:Program) (t:TypeId) (w:World):(binOp .shl t (.int .i64 1) (.int .i64 (s:Int))).run P w= .ok (.int .i64 ((2^s:Nat):Int)) w:=by
 have e:((1:Int)*2^min (s:Int).toNat IntKind.i64.bits)=((2^s:Nat):Int):=by
  rw [Int.toNat_natCast,show min s IntKind.i64.bits=s from Nat.min_eq_left (by show s≤64;omega)];simp
 have hb:2^s≤2^62:=Nat.pow_le_pow_right (by omega) hs
 simp only [binOp]
 rw [shift_shl_any _ _ _ _ (by omega),e,wrap_i64_nat (by omega)];rfl
theorem Own.apart {w:World}{base base':Nat}{t t':TypeId}{s s':Nat}{A B:Option Addr}{n cap n' cap':Nat}{vs us:List Value}(h:Own w base t s A n cap vs) (k:Own w base' t' s' B n' cap' us) (hne:t≠t'):
  ∀p q,A=some p→B=some q→p.block≠q.block:=by
 intro p q hp hq e
 rcases h with h | ⟨g,cs,ha,hb,hk,_⟩
 ·rw [h.1] at hp;cases hp
 ·rcases k with k | ⟨g',cs',ha',hb',hk',_⟩
  ·rw [k.1] at hq;cases hq
  ·rw [ha] at hp;rw [ha'] at hq
   cases hp;cases hq
   have e':g=g':=e
   subst e'
   unfold Bk at hk hk'
   rw [hk] at hk'
   injection hk' with h1
   injection h1 with h2 h3
   exact hne h3
theorem pow_pos' {B N:Nat}(hB:2≤B):0<B^N:=Nat.pow_pos (by omega)
theorem strip_step {L B N M X:Nat}(h:L*B^N=X) (hd:L%B^M=0):L/B^M*B^(N+M)=X:=by
 have e:L/B^M*B^M=L:=Nat.div_mul_cancel (Nat.dvd_of_mod_eq_zero hd)
 rw [Nat.pow_add,Nat.mul_comm (B^N),←Nat.mul_assoc,e,h]
theorem strip_still {L B i:Nat}(_hB:2≤B) (h:L%B^(2^(i+1))≠0) (hd:L%B^(2^i)=0):(L/B^(2^i))%B^(2^i)≠0:=by
 intro h2
 apply h
 have e1:=Nat.div_mul_cancel (Nat.dvd_of_mod_eq_zero hd)
 obtain⟨c,hc⟩:=Nat.dvd_of_mod_eq_zero h2
 rw [hc] at e1
 have e2:B^(2^(i+1))=B^(2^i)*B^(2^i):=by rw [←Nat.pow_add,Nat.pow_succ];congr 1;omega
 rw [←e1,e2,show B^2^i*c*B^2^i=(B^2^i*B^2^i)*c by rw [Nat.mul_right_comm],Nat.mul_mod_right]
theorem strip_le {L B N X:Nat}(hX:X≠0) (hB:2≤B) (h:L*B^N=X):N≤blen X:=by
 have hL:0<L:=Nat.pos_of_ne_zero (fun e=>hX (by rw [←h,e,Nat.zero_mul]))
 have h1:2^N≤B^N:=Nat.pow_le_pow_left hB N
 have h2:B^N≤L*B^N:=Nat.le_mul_of_pos_left _ hL
 have h3:=lt_blen X
 rw [h] at h2
 refine Nat.le_of_lt ((Nat.pow_lt_pow_iff_right (a:=2) (by omega)).1 (by omega))
theorem strip_pos {L B N X:Nat}(hX:X≠0) (h:L*B^N=X):0<L:=Nat.pos_of_ne_zero (fun e=>hX (by rw [←h,e,Nat.zero_mul]))
theorem strip_lt {L B N:Nat}(hL:0<L) (hB:2≤B):L/B^(N+1)<L:=by
 refine Nat.div_lt_self hL ?_
 have:=Nat.mul_le_mul (pow_pos' (N:=N) hB) hB
 rw [Nat.pow_succ];omega
theorem strip_uniq {B:Nat}(hB:2≤B){L M k j:Nat}(h:L*B^k=M*B^j) (hL:L%B≠0) (hM:M%B≠0):k=j∧L=M:=by
 have main:∀{L M k j:Nat},L*B^k=M*B^j→L%B≠0→¬k<j:=by
  intro L M k j h hL hlt
  obtain⟨d,rfl⟩:∃d,j=k+(d+1):=⟨j-k-1,by omega⟩
  rw [Nat.pow_add,Nat.mul_comm (B^k),←Nat.mul_assoc] at h
  have e:=Nat.eq_of_mul_eq_mul_right (pow_pos' hB) h
  apply hL
  rw [e,Nat.pow_succ,←Nat.mul_assoc,Nat.mul_mod_left]
 have hkj:k=j:=by
  have h1:=main h hL
  have h2:=main h.symm hM
  omega
 subst hkj
 exact⟨rfl,Nat.eq_of_mul_eq_mul_right (pow_pos' hB) h⟩
def StripP (w:World) (X B:Nat) (e:Ending) (w':World):Prop:=
 ∃(k L:Nat) (A:Option Addr) (n cap:Nat),e= .returned (.tuple #[.int .i64 (k:Int),.slice A n cap,.int .i64 0])∧Hid (L*B^k=X)∧Hid (L%B≠0)∧Hid (n=(wd L).length)∧Rd w' A n cap (wd L)∧Own w' w.heap.size 24 1 A n cap ((wd L).map W64)∧Ext w w'
theorem infoW:(Try.prog.info? 22).map (fun i=>(i.zero,i.size,i.bytes))=some (some (.slice none 0 0),1,24):=by kernel_rfl
theorem divnat_Strip_bad {w:World}{A B:Option Addr}{n cap n' cap':Nat}{xs ys:List Nat}(hx:Rd w A n cap xs) (hl:n≤268435456) (hy:Rd w B n' cap' ys) (hl':n'≤268435456) (h0:nv xs=0∨nv ys<2):
  Calls Try.prog 69 #[.slice A n cap,.slice B n' cap'] w (fun e w'=>e= .returned (.tuple #[.int .i64 0,.slice none 0 0,.int .i64 3])∧Ext w w'):=by
 have H0:=Lib.hid h0
 clear h0
 go_enter Try.func69,Try.ntmps69
 go_wp2_with fail
 refine (nat_Least hx (by omega)).mono ?_
 rintro e w1 ⟨A1,n1,c1,rfl,hn1,hr1,ho1,hx1⟩
 go_wp2_with fail
 refine (nat_Least (hy.ext hx1) (by omega)).mono ?_
 rintro e w2 ⟨A2,n2,c2,rfl,hn2,hr2,ho2,hx2⟩
 have hn2b:n2≤268435456:=by rw [hn2.out];exact Nat.le_trans (by have:=len_wd_nv hy.wf;rw [hy.len] at this;exact this) hl'
 by_cases hz:n1=0
 ·subst hz
  go_wp2_with fail
  go_ret3
  exact⟨rfl,hx1.trans hx2⟩
 ·have bz:((n1:Int)==0)=false:=by simp;omega
  have hlt:Hid (nv ys<2):=by
   rcases H0.out with h | h
   ·exact absurd (by rw [hn1.out,h];rfl) hz
   ·exact h
  go_wp2_with fail
  obtain⟨wa,hwa⟩:∃wa,w2.alloc (.cells #[.int .u64 2] 24)=wa:=⟨_,rfl⟩
  rw [hwa]
  have hea:Ext w2 wa:=by rw [←hwa];exact (Ext.refl w2).alloc _
  have h2:Rd wa (some ⟨w2.heap.size,0,none⟩) 1 1 [2]:=by rw [←hwa];exact Rd.one w2 (x:=2) (by omega)
  clear hwa
  refine (nat_Cmp (hr2.ext hea) (by omega) h2 (by omega)).mono ?_
  rintro e w3 ⟨c,hc,hcl,hch,rfl,hx3⟩
  rw [nv_wd,nv_one] at hc
  have hneg:c<0:=by rw [hc.out];exact cmp3_neg.2 hlt.out
  go_wp2_with fail
  go_ret3
  exact⟨rfl,hx1.trans (hx2.trans (hea.trans hx3))⟩
set_option maxHeartbeats 8000000 in
theorem divnat_Strip {w:World}{A B:Option Addr}{n cap n' cap':Nat}{xs ys:List Nat}(hx:Rd w A n cap xs) (hl:n≤268435456) (hy:Rd w B n' cap' ys) (hl':n'≤268435456) (h0:nv xs≠0) (hB:2≤nv ys):
  Calls Try.prog 69 #[.slice A n cap,.slice B n' cap'] w (StripP w (nv xs) (nv ys)):=by
 have H0:=Lib.hid h0
 have HB:=Lib.hid hB
 have HLX:Hid ((wd (nv xs)).length≤268435456):=Nat.le_trans (by have:=len_wd_nv hx.wf;rw [hx.len] at this;exact this) hl
 have HLY:Hid ((wd (nv ys)).length≤268435456):=Nat.le_trans (by have:=len_wd_nv hy.wf;rw [hy.len] at this;exact this) hl'
 have HBL:Hid (blen (nv xs)≤17179869184):=by
  have:=blen_le (n:=nv xs) (k:=64*n) (by rw [Nat.pow_mul,←WB_pow,←hx.len];exact nv_lt hx.wf)
  show _≤_
  omega
 clear h0 hB
 obtain⟨X,hX⟩:∃X,nv xs=X:=⟨_,rfl⟩
 obtain⟨Y,hY⟩:∃Y,nv ys=Y:=⟨_,rfl⟩
 rw [hX] at H0 HLX HBL⊢
 rw [hY] at HB HLY⊢
 have HX:=Lib.hid hX
 have HY:=Lib.hid hY
 clear hX hY
 go_enter Try.func69,Try.ntmps69
 go_wp2_with fail
 refine (nat_Least hx (by omega)).mono ?_
 rintro e w1 ⟨A1,n1,c1,rfl,hn1,hr1,ho1,hx1⟩
 rw [HX.out] at hn1 hr1 ho1
 have hn1b:n1≤268435456:=by rw [hn1.out];exact HLX.out
 have hn10:0<n1:=by rw [hn1.out];exact Nat.pos_of_ne_zero (fun e=>H0.out (len_wd_zero.1 e))
 have bz:((n1:Int)==0)=false:=by simp;omega
 go_wp2_with fail
 refine (nat_Least (hy.ext hx1) (by omega)).mono ?_
 rintro e w2 ⟨A2,n2,c2,rfl,hn2,hr2,ho2,hx2⟩
 rw [HY.out] at hn2 hr2 ho2
 have hn2b:n2≤268435456:=by rw [hn2.out];exact HLY.out
 go_wp2_with fail
 obtain⟨wa,hwa⟩:∃wa,w2.alloc (.cells #[.int .u64 2] 24)=wa:=⟨_,rfl⟩
 rw [hwa]
 have hea:Ext w2 wa:=by rw [←hwa];exact (Ext.refl w2).alloc _
 have h2:Rd wa (some ⟨w2.heap.size,0,none⟩) 1 1 [2]:=by rw [←hwa];exact Rd.one w2 (x:=2) (by omega)
 clear hwa
 refine (nat_Cmp (hr2.ext hea) (by omega) h2 (by omega)).mono ?_
 rintro e w3 ⟨c,hc,hcl,hch,rfl,hx3⟩
 rw [nv_wd,nv_one] at hc
 have hneg:¬c<0:=by
  intro h
  rw [hc.out] at h
  have:=cmp3_neg.1 h
  have:=HB.out
  omega
 have hneg2:0≤c:=by omega
 have hx13:Ext w1 w3:=hx2.trans (hea.trans hx3)
 have hx23:Ext w2 w3:=hea.trans hx3
 go_upto_region 6 with (fail)
 go_loopw [7,8,9,10] (fun l p pw nn wr=>∃(A P V:Option Addr) (n cap m cap' c'' j L N:Nat) (vs:List Value),l= .slice A n cap∧p= .slice P m cap'∧pw= .slice V j c''∧nn= .int .i64 (N:Int)∧n≤268435456∧m≤536870912∧j≤40∧N≤17179869184∧
  Hid (L*Y^N=X)∧Hid (N+1=2^j)∧Hid (n=(wd L).length)∧Rd wr A n cap (wd L)∧Own wr w.heap.size 24 1 A n cap ((wd L).map W64)∧
  Hid (m=(wd (Y^(N+1))).length)∧Rd wr P m cap' (wd (Y^(N+1)))∧Own wr w.heap.size 24 1 P m cap' ((wd (Y^(N+1))).map W64)∧
  Own wr w.heap.size 22 1 V j c'' vs∧Hid (∀i,i<j→∃(P:Option Addr) (m c:Nat),vs.getD i undef= .slice P m c∧m≤536870912∧Own wr w.heap.size 24 1 P m c ((wd (Y^(2^i))).map W64))∧Ext w wr) (fun l p pw nn wr=>numAt wr l)
 case atStart=>
  have e1:Y^(0+1)=Y:=by rw [Nat.zero_add,Nat.pow_one]
  refine⟨A1,A2,none,n1,c1,n2,c2,0,0,X,0,[],rfl,rfl,rfl,rfl,hn1b,by omega,by omega,by omega,(show _=_ by rw [Nat.pow_zero,Nat.mul_one]),(show _=_ by rw [Nat.pow_zero]),hn1,hr1.ext hx13,ho1.ext hx13,?_,?_,?_,Own.nil _ _ _ _,(fun i hi=>by omega),hx1.trans hx13⟩
  ·show _=_;rw [e1];exact hn2.out
  ·rw [e1];exact hr2.ext hx23
  ·rw [e1];exact (ho2.ext hx23).mono hx1.size
 case round=>
  obtain⟨A,P,V,n,cap,m,cap',c'',j,L,N,vs,rfl,rfl,rfl,rfl,hnb,hmb,hjb,hNb,hL,hN,hn,hra,hoa,hm,hrp,hop,hov,hvs,hr⟩:=hrel
  clear hr1 hr2 ho1 ho2 hx hy hn1 hn2 hx13 hx23 hx1 hx2 hx3 hea h2 hc hcl hch hneg hneg2 hn1b hn2b hn10 bz
  have hP0:Y^(N+1)≠0:=Nat.ne_of_gt (pow_pos' HB.out)
  have HP0:=Lib.hid hP0
  clear hP0
  by_cases hd:L%Y^(N+1)=0
  ·have HD:=Lib.hid hd
   clear hd
   have hLpos:Hid (0<L):=strip_pos H0.out hL.out
   have hPL:Hid (Y^(N+1)≤X):=by
    have h1:=Nat.le_of_dvd hLpos.out (Nat.dvd_of_mod_eq_zero HD.out)
    have h2:L≤L*Y^N:=Nat.le_mul_of_pos_right _ (pow_pos' HB.out)
    rw [hL.out] at h2
    exact Nat.le_trans h1 h2
   have hstep:Hid (L/Y^(N+1)*Y^(N+(N+1))=X):=strip_step hL.out HD.out
   have hmb2:m≤268435456:=by rw [hm.out];exact Nat.le_trans (len_wd_mono hPL.out) HLX.out
   have hN2:N+(N+1)≤17179869184:=Nat.le_trans (strip_le H0.out HB.out hstep.out) HBL.out
   have hj2:j+1≤40:=by
    have h1:2^j<2^39:=by rw [←hN.out];omega
    have:=(Nat.pow_lt_pow_iff_right (a:=2) (by omega)).1 h1
    omega
   go_wp2_with fail
   refine (divnat_Exact hra (by omega) hrp (by omega) (by rw [nv_wd];exact HP0.out) (by rw [nv_wd,nv_wd];exact HD.out)).mono ?_
   rintro e w4 ⟨A4,n4,c4,rfl,hn4,hr4,ho4,hx4⟩
   rw [nv_wd,nv_wd] at hn4 hr4 ho4
   have hn4b:n4≤268435456:=by
    rw [hn4.out]
    exact Nat.le_trans (len_wd_mono (Nat.div_le_self _ _)) (by rw [←hn.out];exact hnb)
   have r1:(j+1)*24≤140737488355328:=by omega
   have hHr:=hr.size
   have hH4:=hx4.size
   go_wp2_with (first
    | ((with_reducible refine at_slot (some 41) ?_);refine wpl_i64 rfl rfl rfl rfl rfl (i64_shl1 (s:=j) (by omega)) ?_;intro q hq;have hqN:q=N+1:=(by rw [hq.out];exact hN.out.symm);clear hq;subst hqN)
    | ((with_reducible refine at_slot (some 46) ?_);refine wpc_append rfl (.tmp 43) (.tmp 45) 73 rfl rfl rfl Try.underlying73 infoW rfl (by decide) ((hov.ext hx4).ext ((Ext.refl _).alloc _)) (Rv.one _ _ _) (by simp [Value.oneCell']) r1 (by rw [len_maxLen];omega) (by simp;omega) ?_;intro A5 c5 w5 ho5 hu5 _))
   have hg:Ext w4 (w4.alloc (.cells #[.slice P m cap'] 22)):=(Ext.refl _).alloc _
   have hxg:Ext wr (w4.alloc (.cells #[.slice P m cap'] 22)):=hx4.trans hg
   have hap:∀(Q:Option Addr) (q c:Nat) (us:List Value),Own (w4.alloc (.cells #[.slice P m cap'] 22)) w.heap.size 24 1 Q q c us→Own w5 w.heap.size 24 1 Q q c us:=by
    intro Q q c us h
    exact h.updO hu5 ((hov.ext hxg).apart h (by decide))
   have HAP:=Lib.hid hap
   clear hap
   have he5:Ext w w5:=hu5.ext (hr.trans hxg) (fun p hp=>(hov.block p hp).1)
   have hop5:=HAP.out _ _ _ _ (hop.ext hxg)
   have ho45:=HAP.out _ _ _ _ ((ho4.ext hg).mono hr.size)
   refine (mulnat_Square (hop5.rd (Wf_wd _)) (by omega)).mono ?_
   rintro e w6 ⟨A6,n6,c6,rfl,hn6,hr6,ho6,hx6⟩
   have e6:Y^(N+1)*Y^(N+1)=Y^(N+(N+1)+1):=by rw [←Nat.pow_add];congr 1;omega
   rw [nv_wd,e6] at hn6 hr6 ho6
   have hn6b:n6≤536870912:=by
    have h1:=len_wd_mul (Y^(N+1)) (Y^(N+1))
    rw [e6,←hn6.out,←hm.out] at h1
    omega
   clear e6
   go_wp2_with fail
   go_roundw
   case rel=>
    refine⟨A4,A6,A5,n4,c4,n6,c6,c5,j+1,L/Y^(N+1),N+(N+1),vs++ [.slice P m cap'],rfl,rfl,rfl,val_int (by omega),hn4b,hn6b,hj2,hN2,hstep,?_,hn4,(ho45.rd (Wf_wd _)).ext hx6,ho45.ext hx6,hn6,hr6,ho6.mono he5.size,ho5.ext hx6,?_,he5.trans hx6⟩
    ·show _=_
     have:=hN.out
     rw [Nat.pow_succ];omega
    ·intro i hi
     have hvl:vs.length=j:=by simpa using hov.rv.len
     by_cases hij:i<j
     ·obtain⟨P',m',c',e1,e2,e3⟩:=hvs.out i hij
      refine⟨P',m',c',?_,e2,(HAP.out _ _ _ _ (e3.ext hxg)).ext hx6⟩
      rw [←e1]
      simp [List.getD_eq_getElem?_getD,List.getElem?_append_left (show i<vs.length by omega)]
     ·have hij':i=j:=by omega
      refine⟨P,m,cap',?_,hmb,?_⟩
      ·rw [hij',←hvl];simp [List.getD_eq_getElem?_getD]
      ·rw [hij',←hN.out];exact hop5.ext hx6
   case measure=>
    rw [((ho45.rd (Wf_wd _)).ext hx6).numAt,hra.numAt,nv_wd,nv_wd]
    exact strip_lt hLpos.out HB.out
  ·have HD:=Lib.hid hd
   clear hd
   go_wp2_with fail
   refine (divnat_Exact_not hra (by omega) hrp (by omega) (by rw [nv_wd];exact HP0.out) (by rw [nv_wd,nv_wd];exact HD.out)).mono ?_
   rintro e w4 ⟨rfl,hx4⟩
   have hx5:Ext w w4:=hr.trans hx4
   have hov4:=hov.ext hx4
   have hvs4:Hid (∀i,i<j→∃(P:Option Addr) (m c:Nat),vs.getD i undef= .slice P m c∧m≤536870912∧Own w4 w.heap.size 24 1 P m c ((wd (Y^(2^i))).map W64)):=by
    intro i hi
    obtain⟨P',m',c',e1,e2,e3⟩:=hvs.out i hi
    exact⟨P',m',c',e1,e2,e3.ext hx4⟩
   have hND:Hid (L%Y^(2^j)≠0):=(show _≠_ by rw [←hN.out];exact HD.out)
   have hra4:=hra.ext hx4
   have hoa4:=hoa.ext hx4
   clear hra hoa hov hvs hrp hop hm hN HD HP0 hx4
   go_wp2_with fail
   go_loopw [7,10,13] (fun l nn ii ws=>∃(A:Option Addr) (n cap i L N:Nat),l= .slice A n cap∧nn= .int .i64 (N:Int)∧ii= .int .i64 ((i:Int)-1)∧i≤j∧n≤268435456∧N≤17179869184∧Hid (L*Y^N=X)∧Hid (L%Y^(2^i)≠0)∧Hid (n=(wd L).length)∧
    Rd ws A n cap (wd L)∧Own ws w.heap.size 24 1 A n cap ((wd L).map W64)∧Ext w4 ws) (fun l nn ii ws=>(intOf ii+1).toNat)
   case atStart=>exact⟨A,n,cap,j,L,N,rfl,rfl,rfl,Nat.le_refl _,hnb,hNb,hL,hND,hn,hra4,hoa4,Ext.refl _⟩
   case round=>
    obtain⟨A,n,cap,i,L,N,rfl,rfl,rfl,hij,hnb,hNb,hL,hND,hn,hra,hoa,hxs⟩:=hrel
    clear hra4 hoa4
    by_cases hi0:0<i
    ·obtain⟨i,rfl⟩:∃k,i=k+1:=⟨i-1,by omega⟩
     have ek:((i+1:Nat):Int)-1=(i:Int):=by omega
     rw [ek]
     obtain⟨v,hv,hvc⟩:=(hov4.ext hxs).rv.get i (by omega)
     obtain⟨P',m',c',e1,e2,e3⟩:=hvs4.out i (by omega)
     rw [e1] at hvc
     subst hv
     have h2p:2^i≤2^40:=Nat.pow_le_pow_right (by omega) (by omega)
     have H2P:=Lib.hid h2p
     clear h2p e1
     have hP0:Y^2^i≠0:=Nat.ne_of_gt (pow_pos' HB.out)
     have HP0:=Lib.hid hP0
     clear hP0
     by_cases hd:L%Y^(2^i)=0
     ·have HD:=Lib.hid hd
      clear hd
      have hstep:Hid (L/Y^(2^i)*Y^(N+2^i)=X):=strip_step hL.out HD.out
      obtain⟨T,hT⟩:∃T,T=2^i:=⟨_,rfl⟩
      have hNT:N+T≤17179869184:=by rw [hT];exact Nat.le_trans (strip_le H0.out HB.out hstep.out) HBL.out
      have HT:=Lib.hid hT
      clear hT
      go_wp2_with fail
      refine (divnat_Exact hra (by omega) ((e3.ext hxs).rd (Wf_wd _)) (by omega) (by rw [nv_wd];exact HP0.out) (by rw [nv_wd,nv_wd];exact HD.out)).mono ?_
      rintro e w5 ⟨A5,n5,c5,rfl,hn5,hr5,ho5,hx5'⟩
      rw [nv_wd,nv_wd] at hn5 hr5 ho5
      have hn5b:n5≤268435456:=by
       rw [hn5.out]
       exact Nat.le_trans (len_wd_mono (Nat.div_le_self _ _)) (by rw [←hn.out];exact hnb)
      go_wp2_with (first
       | ((with_reducible refine at_slot (some 70) ?_);refine wpl_i64 rfl rfl rfl rfl rfl (i64_shl1 (s:=i) (by omega)) ?_;intro q hq;have hqN:q=T:=(by rw [hq.out,HT.out]);clear hq;subst hqN))
      go_roundw
      case rel=>
       refine⟨A5,n5,c5,i,L/Y^2^i,N+q,rfl,val_int (by omega),rfl,by omega,hn5b,hNT,?_,strip_still HB.out hND.out HD.out,hn5,hr5,ho5.mono (hx5.trans hxs).size,hxs.trans hx5'⟩
       show _=_
       rw [HT.out];exact hstep.out
      case measure=>simp [intOf]
     ·have HD:=Lib.hid hd
      clear hd
      go_wp2_with fail
      refine (divnat_Exact_not hra (by omega) ((e3.ext hxs).rd (Wf_wd _)) (by omega) (by rw [nv_wd];exact HP0.out) (by rw [nv_wd,nv_wd];exact HD.out)).mono ?_
      rintro e w5 ⟨rfl,hx5'⟩
      go_wp2_with fail
      go_roundw
      case rel=>exact⟨A,n,cap,i,L,N,rfl,rfl,rfl,by omega,hnb,hNb,hL,HD,hn,hra.ext hx5',hoa.ext hx5',hxs.trans hx5'⟩
      case measure=>simp [intOf]
    ·obtain rfl:i=0:=by omega
     have ek:((0:Nat):Int)-1= -1:=rfl
     rw [ek]
     go_wp2_with fail
     go_ret3
     rw [Nat.pow_zero,Nat.pow_one] at hND
     exact⟨N,L,A,n,cap,rfl,hL,hND,hn,hra,hoa,hx5.trans hxs⟩
def OD (b m:Nat) (v:Value) (w:World):Prop:=∃A k c,v= .slice A k c∧Own w b 24 1 A k c ((db 4294967296 m).map W64)
theorem Bk.od {w:World}{b g N k:Nat}{l:List Nat}(hb:Bk w g 24 (l.map W64)) (hg:b≤g) (hl:l.length=N) (hN:N≤1099511627776) (hw:Wfb 4294967296 l) (hk:k≤N) (ht:k=0∨l.getD (k-1) 0≠0) (hv:∀b,nb b (l.take k)=nb b l):
  Own w b 24 1 (some ⟨g,0,none⟩) k N ((db 4294967296 (nb 4294967296 l)).map W64):=by
 rw [db_take b32 hw (by omega) (hv _) ht]
 exact Own.mk_ hg hb hk (by rw [len_maxLen];omega) (by rw [List.length_map,hl,Nat.mul_one]) (by rw [Nat.mul_one,List.map_take])
theorem od_rd {w:World}{b m k c:Nat}{A:Option Addr}(h:Own w b 24 1 A k c ((db 4294967296 m).map W64)):Rd w A k c (db 4294967296 m):=h.rd (Wfb_db b32 m).wf
theorem od_len {w:World}{b m k c:Nat}{A:Option Addr}(h:Own w b 24 1 A k c ((db 4294967296 m).map W64)):(db 4294967296 m).length=k:=(od_rd h).len
def Pows (w:World) (b Y N I:Nat) (vs:List Value):Prop:=vs.length=I∧∀q,q<I→∃A k c,vs.getD q undef= .slice A k c∧k≤N∧Own w b 24 1 A k c ((db 4294967296 (Y^2^q)).map W64)
theorem Pows.ext {w w':World}{b Y N I:Nat}{vs:List Value}(h:Pows w b Y N I vs) (e:Ext w w'):Pows w' b Y N I vs:=⟨h.1,fun q hq=>by
 obtain⟨A,k,c,h1,h2,h3⟩:=h.2 q hq
 exact⟨A,k,c,h1,h2,h3.ext e⟩⟩
theorem Pows.updO {w w':World}{b Y N I lb n c:Nat}{vs us:List Value}{PA:Option Addr}(h:Pows w b Y N I vs) (ho:Own w lb 22 1 PA n c us) (x:UpdO PA w w'):Pows w' b Y N I vs:=⟨h.1,fun q hq=>by
 obtain⟨A,k,c,h1,h2,h3⟩:=h.2 q hq
 exact⟨A,k,c,h1,h2,h3.updOT ho (by decide) x⟩⟩
theorem Pows.nil (w:World) (b Y N:Nat):Pows w b Y N 0 []:=⟨rfl,fun q hq=>absurd hq (by omega)⟩
theorem Pows.snoc {w:World}{b Y N I k c:Nat}{A:Option Addr}{vs:List Value}(h:Pows w b Y N I vs) (hk:k≤N) (ho:Own w b 24 1 A k c ((db 4294967296 (Y^2^I)).map W64)):Pows w b Y N (I+1) (vs++ [.slice A k c]):=by
 refine⟨by rw [List.length_append,h.1];rfl,fun q hq=>?_⟩
 by_cases e:q<I
 ·obtain⟨B,m,d,h1,h2,h3⟩:=h.2 q e
  exact⟨B,m,d,by rw [List.getD_eq_getElem?_getD,List.getElem?_append_left (by rw [h.1];exact e),←List.getD_eq_getElem?_getD];exact h1,h2,h3⟩
 ·obtain rfl:q=I:=by omega
  exact⟨A,k,c,by rw [List.getD_eq_getElem?_getD,List.getElem?_append_right (by rw [h.1];exact Nat.le_refl _),h.1,Nat.sub_self];rfl,hk,ho⟩
theorem own_cell {w:World}{lb:Nat}{T:TypeId}{A:Option Addr}{n c:Nat}{vs:List Value}(h:Own w lb T 1 A n c vs){i:Nat}(hi:i<n):∃p,A.map (·.add (i*1))=some p∧w.cell? p=some (vs.getD i undef):=by
 obtain⟨a,rfl,hc⟩:=h.rv.get i (by omega)
 exact⟨a.add i,by rw [Nat.mul_one];rfl,hc⟩
theorem sp_break {X Z x z:Nat}(hx:(db 4294967296 X).length=x) (hz:(db 4294967296 Z).length=z) (hZ:Z≠0) (h:x<2*z-1):X<Z*Z:=by
 have h1:0<z:=Nat.pos_of_ne_zero fun e=>hZ ((len_db_zero b32).1 (by rw [hz,e]))
 have h2:4294967296^(z-1)≤Z:=by
  refine Nat.le_of_not_lt fun e=>?_
  have:=len_db_le b32 e
  omega
 have h3:=Nat.mul_le_mul h2 h2
 rw [←Nat.pow_add] at h3
 have h4:=lt_pow_len_db b32 X
 rw [hx] at h4
 have h5:4294967296^x≤4294967296^(z-1+(z-1)):=Nat.pow_le_pow_right (by decide) (by omega)
 omega
theorem sp_I {X Y Z I:Nat}(hY:2≤Y) (hZ:Z=Y^2^I) (h:Z≤X):I<blen X:=by
 have h1:=Nat.lt_two_pow_self (n:=I)
 have h2:2^2^I≤Z:=by rw [hZ];exact Nat.pow_le_pow_left hY _
 refine Nat.lt_of_not_le fun e=>?_
 have h3:2^blen X≤2^2^I:=Nat.pow_le_pow_right (by decide) (by omega)
 have h4:=lt_blen X
 omega
theorem sp_bound {X Y L n I:Nat}(hX:X≠0) (hY:2≤Y) (h:L*Y^(n*2^I)=X):n≤blen X:=by
 have h1:=strip_le hX hY h
 have h2:n*1≤n*2^I:=Nat.mul_le_mul_left n (Nat.two_pow_pos I)
 omega
theorem sp_one {Y:Nat}(h:Y≠0) (hn:(db 4294967296 Y).length=1):Y<4294967296∧(db 4294967296 Y).getD 0 0=Y:=by
 have h1:=lt_pow_len_db b32 Y
 rw [hn,Nat.pow_one] at h1
 exact⟨h1,by rw [db_small h h1];rfl⟩
theorem sp_yes {L Y n j X:Nat}(h:L*Y^(n*2^(j+1))=X) (hd:L%Y^2^j=0):L/Y^2^j*Y^((2*n+1)*2^j)=X:=by
 have:=strip_step h hd
 rw [show (2*n+1)*2^j=n*2^(j+1)+2^j by rw [Nat.pow_succ];grind]
 exact this
theorem sp_no {L Y n j X:Nat}(h:L*Y^(n*2^(j+1))=X):L*Y^(2*n*2^j)=X:=by
 rw [show 2*n*2^j=n*2^(j+1) by rw [Nat.pow_succ];grind]
 exact h
set_option maxHeartbeats 4000000 in
theorem ref3_halvesO {w:World}{A:Option Addr}{n cap:Nat}{xs:List Nat}(hx:Rd w A n cap xs) (hln:n≤274877906944):
    Calls Try.prog 86 #[.slice A n cap] w (Gv w (OD w.heap.size (nv xs))):=by
 have hlen:=hx.len
 have hle:=hx.rv.le
 refine sx_enter Try.func86 rfl (n:=38) rfl (bq rfl) (args:= [.slice A n cap]) (cw_keep [(0,.slice A n cap)] ⟨rfl,trivial⟩ (sr (mv 1 rfl (ne_ (sr (mv 1 rfl (cl (vs:= [.slice A n cap]) (Ext.refl w) (ref3_Trim hx (by omega)) rfl (by kernel_rfl) fun xr3 v1 r3 e2 hw1=>?_)))))))
 obtain⟨k4,rfl,hk4,ht4,hv4⟩:=r3
 have rd4:=((hx.ext e2)).take hk4 (by omega) (Nat.le_refl _)
 refine mv 1 rfl (ne_ (cw_seq ?_))
 obtain⟨ys,hys⟩:∃ys,xs.take k4=ys:=⟨_,rfl⟩
 have hvy:nv ys=nv xs:=by rw [←hys,nv_nb,nv_nb];exact hv4 _
 rw [hys] at rd4
 have hly:=rd4.len
 refine cw_region (mv 1 rfl (pu (v:= .int .i64 ((k4:Nat):Int)) rfl (by kernel_rfl) (wl_ar rfl rfl rfl ((2*k4:Nat):Int) (ai_mul (a:=2) (b:=k4) rfl rfl (by omega)) (by decide) (wl_make rfl (k:=2*k4) rfl rfl rfl un_u64 info64 rfl (by decide) (by omega) (by decide) fun g5 v6 hg7 hb8 e9=>?_))))
 rw [replicate_W64] at hb8
 have ge10:w.heap.size≤g5:=by rw [←hg7];exact hw1.size
 have ne12:0<cap→∀a,A=some a→a.block≠g5:=fun hc a ha=>by have:=(rd4).rv.blk a ha hc;omega
 clear hg7
 have hw2:=hw1.trans e9
 refine mv 1 rfl (ne_ (cw_seq (sr (mv 1 rfl (ne_ (cw_block ?_))))))
 refine cw_loop (T:=World×Nat×List Nat)
  (fun⟨wr,i,l⟩=> [(0,.slice A k4 cap),(3,.slice (some ⟨g5,0,none⟩) (2*k4) (2*k4)),(4,.int .i64 ((i:Nat):Int))])
  (fun⟨wr,i,l⟩=>wr)
  (fun⟨wr,i,l⟩=>(Ext w wr)∧(i≤k4)∧(Bk wr g5 24 (l.map W64))∧(l.length=2*k4)∧(Wfb 4294967296 l)∧(nb 4294967296 (l.take (2*i))=nv (ys.take i))∧(Rd wr A k4 cap ys))
  (fun⟨wr,i,l⟩=>k4-i)
  (⟨v6,0,_⟩:World×Nat×List Nat) ⟨hw2,Nat.zero_le _,hb8,(List.length_replicate (n:=2*k4) (a:=0)),Wfb_zeros (by decide) _,by simp [nb,nv],(rd4.ext e9)⟩ rfl ⟨rfl,rfl,rfl,trivial⟩ ?_
 rintro⟨wr,i,l⟩ ⟨hw1,hi,hb,hl,hwf,hv,rl0⟩
 refine cw_re [(0,.slice A k4 cap),(3,.slice (some ⟨g5,0,none⟩) (2*k4) (2*k4)),(4,.int .i64 ((i:Nat):Int))] wr rfl ⟨rfl,rfl,rfl,trivial⟩ (cw_seq (cw_seq ?_))
 by_cases him:i<k4
 · 
  refine cw_region (mv 2 rfl (pu (v:= .int .i64 ((k4:Nat):Int)) rfl (by kernel_rfl) (wl_cmp rfl rfl rfl true (cb_lt_t (a:=i) (b:=k4) rfl rfl (by omega)) (by decide) (ne_ (cw_true rfl (cw_skip (eo_then (cw_seq (cw_block (cw_seq ?_))))))))))
  have hxb:ys.getD i 0≤18446744073709551615:=by have:=Wf_getD rd4.wf i;rw [WB_def] at this;omega
  refine cw_region (mv 2 rfl (wl_ar rfl rfl rfl ((2*i:Nat):Int) (ai_mul (a:=2) (b:=i) rfl rfl (by omega)) (by decide) (mv 2 rfl ?_)))
  obtain⟨p13,hp13,hc13,hv13⟩:=(rl0).at (i:=i) (by omega)
  refine wl_idx rfl rfl rfl un_u64 sz_u64 i rfl (by omega) p13 hp13 (by decide) (wl_load rfl rfl (load_cell1 ag_u64 hc13) (by decide) (wl_ar rfl rfl rfl (((ys.getD i 0)%4294967296:Nat):Int) (au_rem (a:=ys.getD i 0) (b:=4294967296) rfl rfl (by omega)) (by decide) (wl_idx rfl rfl rfl un_u64 sz_u64 (2*i) rfl (by omega) ⟨g5,2*i,none⟩ (arr_at _ _) (by decide) ?_)))
  have hb15:=hb
  refine wl_stored1 rfl rfl rfl sz_u64 rfl hb15 (len_map (by rw [hl];omega)) rfl ((l.set (2*i) ((ys.getD i 0)%4294967296)).map W64) (map_W64_set _ _ _) fun v14 hb16 u17 hs18=>?_
  have hw2:=u17.ext hw1 ge10
  refine ne_ (cw_region (mv 2 rfl (wl_ar rfl rfl rfl ((2*i:Nat):Int) (ai_mul (a:=2) (b:=i) rfl rfl (by omega)) (by decide) (wl_ar rfl rfl rfl (((2*i)+1:Nat):Int) (ai_add (a:=2*i) (b:=1) rfl rfl (by omega)) (by decide) (mv 2 rfl ?_)))))
  obtain⟨p19,hp19,hc19,hv19⟩:=((Rd.updL rl0 u17 ne12)).at (i:=i) (by omega)
  refine wl_idx rfl rfl rfl un_u64 sz_u64 i rfl (by omega) p19 hp19 (by decide) (wl_load rfl rfl (load_cell1 ag_u64 hc19) (by decide) (wl_ar rfl rfl rfl (((ys.getD i 0)/4294967296:Nat):Int) (au_quo (a:=ys.getD i 0) (b:=4294967296) rfl rfl (by omega) (by omega)) (by decide) (wl_idx rfl rfl rfl un_u64 sz_u64 ((2*i)+1) rfl (by omega) ⟨g5,(2*i)+1,none⟩ (arr_at _ _) (by decide) (wl_stored1 rfl rfl rfl sz_u64 rfl hb16 (len_map (by rw [(len_set (l:=l) (hl))];omega)) rfl (((l.set (2*i) ((ys.getD i 0)%4294967296)).set ((2*i)+1) ((ys.getD i 0)/4294967296)).map W64) (map_W64_set _ _ _) fun v20 hb22 u23 hs24=>?_))))
  have hw3:=u23.ext hw2 ge10
  refine wl_nil (eo_block_normal (eo_then (cw_region (mv 1 rfl (wl_ar rfl rfl rfl ((i+1:Nat):Int) (ai_add (a:=i) (b:=1) rfl rfl (by omega)) (by decide) (mv 1 rfl (wl_nil (eo_round (⟨v20,i+1,_⟩:World×Nat×List Nat) ⟨hw3,(by omega),hb22,(len_set (l:=l.set (2*i) ((ys.getD i 0)%4294967296)) ((len_set (l:=l) (hl)))),Wfb_set (Wfb_set hwf _ (Nat.mod_lt _ (by decide))) _ (by omega),halves_step3 (by omega) (by omega) rfl hv,(Rd.updL (Rd.updL rl0 u17 ne12) u23 ne12)⟩ (show k4-(i+1)<k4-i by omega) rfl ⟨rfl,rfl,rfl,trivial⟩))))))))
 · 
  refine cw_region (mv 2 rfl (pu (v:= .int .i64 ((k4:Nat):Int)) rfl (by kernel_rfl) (wl_cmp rfl rfl rfl false (cb_lt_f (a:=i) (b:=k4) rfl rfl (by omega)) (by decide) (ne_ (cw_false rfl (cw_exit (eo_thenX (eo_loopX (eo_block_here (eo_then (cw_seq ?_)))))))))))
  obtain rfl:k4=i:=by omega
  have hval:nb 4294967296 l=nv xs:=by rw [←hvy];rwa [List.take_of_length_le (by omega),List.take_of_length_le (by omega)] at hv
  refine cw_region (mv 1 rfl (cl (vs:= [.slice (some ⟨g5,0,none⟩) (2*k4) (2*k4)]) hw1 (ref3_Trim (hb.rd0 hwf.wf hl (by omega)) (by omega)) rfl (by kernel_rfl) fun xr27 v25 r27 e26 hw2=>?_))
  obtain⟨k28,rfl,hk28,ht28,hv28⟩:=r27
  refine mv 1 rfl (ne_ (cw_ret (eo_ret [.slice (some ⟨g5,0,none⟩) k28 (2*k4)] rfl ⟨rfl,trivial⟩ ?_)))
  have hr:=Bk.od (b:=w.heap.size) (hb.ext e26) ge10 hl (by omega) hwf hk28 ht28 hv28
  rw [hval] at hr
  exact⟨_,rfl,⟨_,_,_,rfl,hr⟩,hw2⟩
set_option maxHeartbeats 4000000 in
theorem ref3_timesOL {w:World}{A D:Option Addr}{n cap m cd:Nat}{xs es:List Nat}(hx:Rd w A n cap xs) (hln:n≤274877906944) (hy:Rd w D m cd es) (hlm:m≤274877906944) (hwx:Wfb 4294967296 xs) (hwe:Wfb 4294967296 es):
    Calls Try.prog 93 #[.slice A n cap,.slice D m cd] w (Gv w (OD w.heap.size (nb 4294967296 xs*nb 4294967296 es))):=by
 have hlen:=hx.len
 have hle2:=hy.len
 refine sx_enter Try.func93 rfl (n:=64) rfl (bq rfl) (args:= [.slice A n cap,.slice D m cd]) (cw_keep [(0,.slice A n cap),(1,.slice D m cd)] ⟨rfl,rfl,trivial⟩ (sr (mv 1 rfl (ne_ (sr (mv 1 rfl (pu (v:= .int .i64 ((n:Nat):Int)) rfl (by kernel_rfl) (mv 1 rfl (pu (v:= .int .i64 ((m:Nat):Int)) rfl (by kernel_rfl) (wl_ar rfl rfl rfl ((n+m:Nat):Int) (ai_add (a:=n) (b:=m) rfl rfl (by omega)) (by decide) (wl_make rfl (k:=n+m) rfl rfl rfl un_u64 info64 rfl (by decide) (by omega) (by decide) fun g1 v2 hg3 hb4 e5=>?_)))))))))))
 rw [replicate_W64] at hb4
 have ge6:w.heap.size≤g1:=by rw [←hg3];exact (Ext.refl w).size
 have ne8:0<cap→∀a,A=some a→a.block≠g1:=fun hc a ha=>by have:=(hx).rv.blk a ha hc;omega
 have ne9:0<cd→∀a,D=some a→a.block≠g1:=fun hc a ha=>by have:=(hy).rv.blk a ha hc;omega
 clear hg3
 have hw1:=(Ext.refl w).trans e5
 refine mv 1 rfl (ne_ (cw_seq (sr (mv 1 rfl (ne_ (cw_block ?_))))))
 refine cw_loop (T:=World×Nat×List Nat)
  (fun⟨wr,i,l⟩=> [(0,.slice A n cap),(1,.slice D m cd),(5,.slice (some ⟨g1,0,none⟩) (n+m) (n+m)),(6,.int .i64 ((i:Nat):Int))])
  (fun⟨wr,i,l⟩=>wr)
  (fun⟨wr,i,l⟩=>(Ext w wr)∧(i≤n)∧(Bk wr g1 24 (l.map W64))∧(l.length=n+m)∧(Wfb 4294967296 l)∧(∀j,i+m≤j→l.getD j 0=0)∧(nb 4294967296 l=nb 4294967296 (xs.take i)*nb 4294967296 es)∧(Rd wr A n cap xs)∧(Rd wr D m cd es))
  (fun⟨wr,i,l⟩=>n-i)
  (⟨v2,0,_⟩:World×Nat×List Nat) ⟨hw1,(Nat.zero_le _),hb4,(List.length_replicate (n:=n+m) (a:=0)),(Wfb_zeros (by decide) _),(fun j _=>getD_zeros _ j),(by rw [List.take_zero,nb_nil,nb_zeros,Nat.zero_mul]),(hx.ext e5),(hy.ext e5)⟩ rfl ⟨rfl,rfl,rfl,rfl,trivial⟩ ?_
 rintro⟨wr,i,l⟩ ⟨hw1,hi,hb,hl,hwf,hz,hv,rl0,rl1⟩
 refine cw_re [(0,.slice A n cap),(1,.slice D m cd),(5,.slice (some ⟨g1,0,none⟩) (n+m) (n+m)),(6,.int .i64 ((i:Nat):Int))] wr rfl ⟨rfl,rfl,rfl,rfl,trivial⟩ (cw_seq (cw_seq ?_))
 by_cases hin:i<n
 · 
  refine cw_region (mv 2 rfl (pu (v:= .int .i64 ((n:Nat):Int)) rfl (by kernel_rfl) (wl_cmp rfl rfl rfl true (cb_lt_t (a:=i) (b:=n) rfl rfl (by omega)) (by decide) (ne_ (cw_true rfl (cw_skip (eo_then (cw_seq (cw_block (sr (mv 1 rfl (ne_ (cw_seq ?_)))))))))))))
  refine sr (mv 1 rfl (ne_ (cw_block ?_)))
  refine cw_loop (T:=World×Nat×Nat×List Nat)
   (fun⟨wr2,j,c,l2⟩=> [(0,.slice A n cap),(1,.slice D m cd),(5,.slice (some ⟨g1,0,none⟩) (n+m) (n+m)),(6,.int .i64 ((i:Nat):Int)),(7,.int .u64 ((c:Nat):Int)),(8,.int .i64 ((j:Nat):Int))])
   (fun⟨wr2,j,c,l2⟩=>wr2)
   (fun⟨wr2,j,c,l2⟩=>(Ext w wr2)∧(j≤m)∧(c≤4294967295)∧(Bk wr2 g1 24 (l2.map W64))∧(l2.length=n+m)∧(Wfb 4294967296 l2)∧(∀q,i+m≤q→l2.getD q 0=0)∧(nb 4294967296 l2+4294967296^(i+j)*c=nb 4294967296 (xs.take i)*nb 4294967296 es+xs.getD i 0*nb 4294967296 (es.take j)*4294967296^i)∧(Rd wr2 A n cap xs)∧(Rd wr2 D m cd es))
   (fun⟨wr2,j,c,l2⟩=>m-j)
   (⟨wr,0,0,_⟩:World×Nat×Nat×List Nat) ⟨hw1,(Nat.zero_le _),(Nat.zero_le _),hb,hl,hwf,hz,(by rw [hv,List.take_zero,nb_nil,Nat.mul_zero,Nat.mul_zero,Nat.zero_mul]),rl0,rl1⟩ rfl ⟨rfl,rfl,rfl,rfl,rfl,rfl,trivial⟩ ?_
  rintro⟨wr2,j,c,l2⟩ ⟨hw1,hj,hc,hb2,hl2,hwf2,hz2,hv2,rl0,rl1⟩
  refine cw_re [(0,.slice A n cap),(1,.slice D m cd),(5,.slice (some ⟨g1,0,none⟩) (n+m) (n+m)),(6,.int .i64 ((i:Nat):Int)),(7,.int .u64 ((c:Nat):Int)),(8,.int .i64 ((j:Nat):Int))] wr2 rfl ⟨rfl,rfl,rfl,rfl,rfl,rfl,trivial⟩ (cw_seq (cw_seq ?_))
  by_cases hjm:j<m
  · 
   refine cw_region (mv 2 rfl (pu (v:= .int .i64 ((m:Nat):Int)) rfl (by kernel_rfl) (wl_cmp rfl rfl rfl true (cb_lt_t (a:=j) (b:=m) rfl rfl (by omega)) (by decide) (ne_ (cw_true rfl (cw_skip (eo_then (cw_seq (cw_block (cw_seq ?_))))))))))
   have hxb:=Wfb_getD (b:=4294967296) (by decide) hwx i
   have hyb:=Wfb_getD (b:=4294967296) (by decide) hwe j
   have hlb:=Wfb_getD (b:=4294967296) (by decide) hwf2 (i+j)
   have hm:(xs.getD i 0)*(es.getD j 0)≤4294967295*4294967295:=Nat.mul_le_mul (by omega) (by omega)
   refine cw_keep [(0,.slice A n cap),(1,.slice D m cd),(5,.slice (some ⟨g1,0,none⟩) (n+m) (n+m)),(6,.int .i64 ((i:Nat):Int)),(7,.int .u64 ((c:Nat):Int)),(8,.int .i64 ((j:Nat):Int)),(22,.int .i64 ((j:Nat):Int)),(23,.slice D m cd),(24,.int .i64 ((m:Nat):Int)),(25,.bool true)] ⟨rfl,rfl,rfl,rfl,rfl,rfl,rfl,rfl,rfl,rfl,trivial⟩ ?_
   obtain⟨v10,hv,e11⟩:∃v,v=wr2.drew∧Ext wr2 v:=⟨_,rfl,(Ext.refl _).drew⟩
   have hw2:=hw1.trans e11
   obtain⟨p12,hp12,hc12,hv12⟩:=((rl0.ext e11)).at (i:=i) (by omega)
   obtain⟨p13,hp13,hc13,hv13⟩:=((rl1.ext e11)).at (i:=j) (by omega)
   refine cw_det mix (w:=v10) [.slice A n cap,.int .i64 ((i:Nat):Int),.pointer (some p12),.int .u64 ((xs.getD i 0:Nat):Int),.slice D m cd,.int .i64 ((j:Nat):Int),.pointer (some p13),.int .u64 ((es.getD j 0:Nat):Int),.int .u64 (((xs.getD i 0)*(es.getD j 0):Nat):Int),.slice (some ⟨g1,0,none⟩) (n+m) (n+m),.int .i64 ((i:Nat):Int),.int .i64 ((j:Nat):Int),.int .i64 ((i+j:Nat):Int),.pointer (some (⟨g1,i+j,none⟩)),.int .u64 ((l2.getD (i+j) 0:Nat):Int),.int .u64 ((((xs.getD i 0)*(es.getD j 0))+(l2.getD (i+j) 0):Nat):Int),.int .u64 ((c:Nat):Int),.int .u64 (((((xs.getD i 0)*(es.getD j 0))+(l2.getD (i+j) 0))+c:Nat):Int),.int .u64 (((((xs.getD i 0)*(es.getD j 0))+(l2.getD (i+j) 0))+c:Nat):Int)] [v10] [] [[],[],[0,1],[2],[],[],[4,5],[6],[3,7],[],[],[],[10,11],[9,12],[13],[8,14],[],[15,16],[17]] [[],[],[0,1],[0,1,2],[],[],[4,5],[4,5,6],[0,1,2,3,4,5,6,7],[],[],[],[10,11],[9,10,11,12],[9,10,11,12,13],[0,1,2,3,4,5,6,7,8,9,10,11,12,13,14],[],[0,1,2,3,4,5,6,7,8,9,10,11,12,13,14,15,16],[0,1,2,3,4,5,6,7,8,9,10,11,12,13,14,15,16,17]] [(0,0),(1,0),(2,0),(3,0),(4,0),(5,0),(6,0),(7,0),(8,0),(9,0),(10,0),(11,0),(12,0),(13,0),(14,0),(15,0),(16,0),(17,0),(18,0)] rfl hv ?_ ?_
   · 
    refine dobs_val _ rfl rfl rfl rfl rfl (rd_move rfl) (dobs_val _ rfl rfl rfl rfl rfl (rd_move rfl) (dobs_val _ rfl rfl rfl rfl rfl (rd_idx rfl rfl un_u64 sz_u64 i rfl (by omega) p12 hp12) (dobs_val _ rfl rfl rfl rfl rfl (rd_load rfl (load_cell1 ag_u64 hc12)) (dobs_val _ rfl rfl rfl rfl rfl (rd_move rfl) (dobs_val _ rfl rfl rfl rfl rfl (rd_move rfl) (dobs_val _ rfl rfl rfl rfl rfl (rd_idx rfl rfl un_u64 sz_u64 j rfl (by omega) p13 hp13) (dobs_val _ rfl rfl rfl rfl rfl (rd_load rfl (load_cell1 ag_u64 hc13)) (dobs_val _ rfl rfl rfl rfl rfl (rd_ar rfl rfl (((xs.getD i 0)*(es.getD j 0):Nat):Int) (au_mul (a:=xs.getD i 0) (b:=es.getD j 0) rfl rfl (by omega))) (dobs_val _ rfl rfl rfl rfl rfl (rd_move rfl) (dobs_val _ rfl rfl rfl rfl rfl (rd_move rfl) (dobs_val _ rfl rfl rfl rfl rfl (rd_move rfl) (dobs_val _ rfl rfl rfl rfl rfl (rd_ar rfl rfl ((i+j:Nat):Int) (ai_add (a:=i) (b:=j) rfl rfl (by omega))) (dobs_val _ rfl rfl rfl rfl rfl (rd_idx rfl rfl un_u64 sz_u64 (i+j) rfl (by omega) ⟨g1,i+j,none⟩ (arr_at _ _)) ?_)))))))))))))
    refine dobs_val _ rfl rfl rfl rfl rfl (rd_load rfl (load_word ag_u64 (hb2.ext e11) (by rw [hl2];omega))) (dobs_val _ rfl rfl rfl rfl rfl (rd_ar rfl rfl ((((xs.getD i 0)*(es.getD j 0))+(l2.getD (i+j) 0):Nat):Int) (au_add (a:=(xs.getD i 0)*(es.getD j 0)) (b:=l2.getD (i+j) 0) rfl rfl (by omega))) (dobs_val _ rfl rfl rfl rfl rfl (rd_move rfl) (dobs_val _ rfl rfl rfl rfl rfl (rd_ar rfl rfl (((((xs.getD i 0)*(es.getD j 0))+(l2.getD (i+j) 0))+c:Nat):Int) (au_add (a:=((xs.getD i 0)*(es.getD j 0))+(l2.getD (i+j) 0)) (b:=c) rfl rfl (by omega))) (dobs_val _ rfl rfl rfl rfl rfl (rd_assign rfl) ?_))))
    exact dobs_nil
   clear hv
   refine eo_keep [(0,.slice A n cap),(1,.slice D m cd),(5,.slice (some ⟨g1,0,none⟩) (n+m) (n+m)),(6,.int .i64 ((i:Nat):Int)),(7,.int .u64 ((c:Nat):Int)),(8,.int .i64 ((j:Nat):Int)),(22,.int .i64 ((j:Nat):Int)),(23,.slice D m cd),(24,.int .i64 ((m:Nat):Int)),(25,.bool true),(28,.slice A n cap),(29,.int .i64 ((i:Nat):Int)),(30,.pointer (some p12)),(31,.int .u64 ((xs.getD i 0:Nat):Int)),(32,.slice D m cd),(33,.int .i64 ((j:Nat):Int)),(34,.pointer (some p13)),(35,.int .u64 ((es.getD j 0:Nat):Int)),(36,.int .u64 (((xs.getD i 0)*(es.getD j 0):Nat):Int)),(37,.slice (some ⟨g1,0,none⟩) (n+m) (n+m)),(38,.int .i64 ((i:Nat):Int)),(39,.int .i64 ((j:Nat):Int)),(40,.int .i64 ((i+j:Nat):Int)),(41,.pointer (some (⟨g1,i+j,none⟩))),(42,.int .u64 ((l2.getD (i+j) 0:Nat):Int)),(43,.int .u64 ((((xs.getD i 0)*(es.getD j 0))+(l2.getD (i+j) 0):Nat):Int)),(44,.int .u64 ((c:Nat):Int)),(45,.int .u64 (((((xs.getD i 0)*(es.getD j 0))+(l2.getD (i+j) 0))+c:Nat):Int)),(9,.int .u64 (((((xs.getD i 0)*(es.getD j 0))+(l2.getD (i+j) 0))+c:Nat):Int))] ⟨rfl,rfl,rfl,rfl,rfl,rfl,rfl,rfl,rfl,rfl,rfl,rfl,rfl,rfl,rfl,rfl,rfl,rfl,rfl,rfl,rfl,rfl,rfl,rfl,rfl,rfl,rfl,rfl,rfl,trivial⟩ (eo_then (sr (mv 3 rfl (wl_ar rfl rfl rfl ((i+j:Nat):Int) (ai_add (a:=i) (b:=j) rfl rfl (by omega)) (by decide) (mv 1 rfl (wl_ar rfl rfl rfl ((((((xs.getD i 0)*(es.getD j 0))+(l2.getD (i+j) 0))+c)%4294967296:Nat):Int) (au_rem (a:=(((xs.getD i 0)*(es.getD j 0))+(l2.getD (i+j) 0))+c) (b:=4294967296) rfl rfl (by omega)) (by decide) (wl_idx rfl rfl rfl un_u64 sz_u64 (i+j) rfl (by omega) ⟨g1,i+j,none⟩ (arr_at _ _) (by decide) ?_)))))))
   have hb15:=(hb2.ext e11)
   refine wl_stored1 rfl rfl rfl sz_u64 rfl hb15 (len_map (by rw [hl2];omega)) rfl ((l2.set (i+j) (((((xs.getD i 0)*(es.getD j 0))+(l2.getD (i+j) 0))+c)%4294967296)).map W64) (map_W64_set _ _ _) fun v14 hb16 u17 hs18=>?_
   have hw3:=u17.ext hw2 ge6
   refine ne_ (cw_region (mv 1 rfl (wl_ar rfl rfl rfl ((((((xs.getD i 0)*(es.getD j 0))+(l2.getD (i+j) 0))+c)/4294967296:Nat):Int) (au_quo (a:=(((xs.getD i 0)*(es.getD j 0))+(l2.getD (i+j) 0))+c) (b:=4294967296) rfl rfl (by omega) (by omega)) (by decide) (mv 1 rfl (wl_nil (eo_block_normal (eo_then (cw_region (mv 1 rfl (wl_ar rfl rfl rfl ((j+1:Nat):Int) (ai_add (a:=j) (b:=1) rfl rfl (by omega)) (by decide) (mv 1 rfl (wl_nil (eo_round (⟨v14,j+1,_,_⟩:World×Nat×Nat×List Nat) ⟨hw3,(by omega),(by omega),hb16,(len_set (l:=l2) (hl2)),Wfb_set hwf2 _ (Nat.mod_lt _ (by decide)),(zero_set hz2 (by omega)),(times_in hv2 (by omega) (by omega) rfl rfl (Nat.mod_add_div _ _)),(Rd.updL (rl0.ext e11) u17 ne8),(Rd.updL (rl1.ext e11) u17 ne9)⟩ (show m-(j+1)<m-j by omega) rfl ⟨rfl,rfl,rfl,rfl,rfl,rfl,trivial⟩)))))))))))))
  · 
   have hjm2:j=m:=by omega
   rw [hjm2] at hv2
   refine cw_region (mv 2 rfl (pu (v:= .int .i64 ((m:Nat):Int)) rfl (by kernel_rfl) (wl_cmp rfl rfl rfl false (cb_lt_f (a:=j) (b:=m) rfl rfl (by omega)) (by decide) (ne_ (cw_false rfl (cw_exit (eo_thenX (eo_loopX (eo_block_here (eo_then (cw_region (mv 3 rfl (pu (v:= .int .i64 ((m:Nat):Int)) rfl (by kernel_rfl) ?_)))))))))))))
   refine wl_ar rfl rfl rfl ((i+m:Nat):Int) (ai_add (a:=i) (b:=m) rfl rfl (by omega)) (by decide) (mv 1 rfl (wl_idx rfl rfl rfl un_u64 sz_u64 (i+m) rfl (by omega) ⟨g1,i+m,none⟩ (arr_at _ _) (by decide) (wl_stored1 rfl rfl rfl sz_u64 rfl hb2 (len_map (by rw [hl2];omega)) rfl ((l2.set (i+m) c).map W64) (map_W64_set _ _ _) fun v19 hb21 u22 hs23=>?_)))
   have hw2:=u22.ext hw1 ge6
   refine wl_nil (eo_block_normal (eo_then (cw_region (mv 1 rfl (wl_ar rfl rfl rfl ((i+1:Nat):Int) (ai_add (a:=i) (b:=1) rfl rfl (by omega)) (by decide) (mv 1 rfl (wl_nil (eo_round (⟨v19,i+1,_⟩:World×Nat×List Nat) ⟨hw2,(by omega),hb21,(len_set (l:=l2) (hl2)),Wfb_set hwf2 _ (by omega),(zero_set (fun j hj=>hz2 j (by omega)) (by omega)),(times_out hv2 (by omega) hle2 (by omega) rfl rfl (hz2 _ (Nat.le_refl _))),(Rd.updL rl0 u22 ne8),(Rd.updL rl1 u22 ne9)⟩ (show n-(i+1)<n-i by omega) rfl ⟨rfl,rfl,rfl,rfl,trivial⟩))))))))
 · 
  refine cw_region (mv 2 rfl (pu (v:= .int .i64 ((n:Nat):Int)) rfl (by kernel_rfl) (wl_cmp rfl rfl rfl false (cb_lt_f (a:=i) (b:=n) rfl rfl (by omega)) (by decide) (ne_ (cw_false rfl (cw_exit (eo_thenX (eo_loopX (eo_block_here (eo_then (sr (mv 1 rfl (cl (vs:= [.slice (some ⟨g1,0,none⟩) (n+m) (n+m)]) hw1 (ref3_Trim (hb.rd0 hwf.wf hl (by omega)) (by omega)) rfl (by kernel_rfl) fun xr26 v24 r26 e25 hw2=>?_)))))))))))))
  obtain⟨k27,rfl,hk27,ht27,hv27⟩:=r26
  refine mv 1 rfl (ne_ (cw_ret (eo_ret [.slice (some ⟨g1,0,none⟩) k27 (n+m)] rfl ⟨rfl,trivial⟩ ?_)))
  have hval:nb 4294967296 l=nb 4294967296 xs*nb 4294967296 es:=by rw [hv,List.take_of_length_le (by omega)]
  have hr:=Bk.od (b:=w.heap.size) (hb.ext e25) ge6 hl (by omega) hwf hk27 ht27 hv27
  rw [hval] at hr
  exact⟨_,rfl,⟨_,_,_,rfl,hr⟩,hw2⟩
theorem OD.imp {b b' m:Nat}(h:b'≤b):∀v w,OD b m v w→OD b' m v w:=fun _ _ ⟨A,k,c,h1,h2⟩=>⟨A,k,c,h1,h2.mono h⟩
theorem ref3_halvesO_ {w:World}{b:Nat}(hb:b≤w.heap.size){A:Option Addr}{n cap:Nat}{xs:List Nat}(hx:Rd w A n cap xs) (hln:n≤274877906944):
  Calls Try.prog 86 #[.slice A n cap] w (Gv w (OD b (nv xs))):=(ref3_halvesO hx hln).mono (Gv.imp (OD.imp hb))
theorem ref3_timesO {w:World}{b:Nat}(hb:b≤w.heap.size){A D:Option Addr}{n cap m cd X Y:Nat}(hx:Rd w A n cap (db 4294967296 X)) (hln:n≤274877906944) (hy:Rd w D m cd (db 4294967296 Y)) (hlm:m≤274877906944):
  Calls Try.prog 93 #[.slice A n cap,.slice D m cd] w (Gv w (OD b (X*Y))):=by
 have h:=ref3_timesOL hx hln hy hlm (Wfb_db b32 _) (Wfb_db b32 _)
 rw [nb_db b32,nb_db b32] at h
 exact h.mono (Gv.imp (OD.imp hb))
set_option maxHeartbeats 8000000 in
theorem ref3_Strip_bad {w:World}{A D:Option Addr}{n cap m cd X Y:Nat}{xs ys:List Nat}(hx:Rd w A n cap xs) (hln:n≤268435456) (hy:Rd w D m cd ys) (hlm:m≤268435456) (hX:nv xs=X) (hY:nv ys=Y) (hg:X=0∨Y<2):
    Calls Try.prog 64 #[.slice A n cap,.slice D m cd] w (Gv w (Is (.tuple #[.int .i64 0,.slice none 0 0,.int .i64 3]))):=by
 have hbx:blen X≤17179869184:=by have h:=blen_le (n:=nv xs) (k:=64*n) (by rw [Nat.pow_mul,←WB_pow,←hx.len];exact nv_lt hx.wf);rw [hX] at h;omega
 refine sx_enter Try.func64 rfl (n:=87) rfl (bq rfl) (args:= [.slice A n cap,.slice D m cd]) (cw_keep [(0,.slice A n cap),(1,.slice D m cd)] ⟨rfl,rfl,trivial⟩ (sr (mv 3 rfl (ne_ (sr (mv 1 rfl (wl_call rfl rfl (vs:= [.slice A n cap]) (by kernel_rfl) (by decide) (by have h:=ref3_halvesO_ (Ext.refl w).size hx (by omega);rw [hX] at h;exact h) ?_)))))))
 rintro _ v1 ⟨xr3,rfl,r3,e2⟩
 refine ret_intro ?_
 have hw1:=(Ext.refl w).trans e2
 obtain⟨A4,n4,c4,rfl,od4⟩:=r3
 refine mv 1 rfl (ne_ (sr (mv 1 rfl (wl_call rfl rfl (vs:= [.slice D m cd]) (by kernel_rfl) (by decide) (by have h:=ref3_halvesO_ hw1.size (hy.ext e2) (by omega);rw [hY] at h;exact h) ?_))))
 rintro _ v5 ⟨xr7,rfl,r7,e6⟩
 refine ret_intro ?_
 have hw2:=hw1.trans e6
 obtain⟨A8,n8,c8,rfl,od8⟩:=r7
 refine mv 1 rfl (ne_ (cw_seq (cw_seq ?_)))
 have hlx:=od_len (od4.ext e6)
 have hly:=od_len od8
 have hlxn:n4≤2*n:=by have h:=len_db32 hx.wf;rw [hx.len,hX] at h;omega
 have hlyn:n8≤2*m:=by have h:=len_db32 hy.wf;rw [hy.len,hY] at h;omega
 by_cases hnx:n4=0
 · 
  refine cw_region (mv 1 rfl (pu (v:= .int .i64 ((n4:Nat):Int)) rfl (by kernel_rfl) (wl_cmp rfl rfl rfl true (cb_eq_t (a:=n4) (b:=0) rfl rfl (by omega)) (by decide) (mv 4 rfl (pu (v:= .bool true) rfl (by kernel_rfl) (mv 10 rfl (pu (v:= .bool true) rfl (by kernel_rfl) (ne_ (cw_true rfl (sr (mv 3 rfl (ne_ (cw_ret ?_)))))))))))))
  refine eo_thenR (eo_ret [I0,S0,.int .i64 3] rfl ⟨rfl,rfl,rfl,trivial⟩ ?_)
  exact⟨_,rfl,rfl,hw2⟩
 · 
  have hXz:X≠0:=fun e=>hnx (by rw [←hlx,e];rfl)
  by_cases hny:n8=0
  · 
   refine cw_region (mv 1 rfl (pu (v:= .int .i64 ((n4:Nat):Int)) rfl (by kernel_rfl) (wl_cmp rfl rfl rfl false (cb_eq_f (a:=n4) (b:=0) rfl rfl (by omega)) (by decide) (mv 2 rfl (pu (v:= .int .i64 ((n8:Nat):Int)) rfl (by kernel_rfl) (wl_cmp rfl rfl rfl true (cb_eq_t (a:=n8) (b:=0) rfl rfl (by omega)) (by decide) (pu (v:= .bool true) rfl (by kernel_rfl) (mv 10 rfl (pu (v:= .bool true) rfl (by kernel_rfl) (ne_ (cw_true rfl (sr (mv 1 rfl ?_)))))))))))))
   refine mv 2 rfl (ne_ (cw_ret (eo_thenR (eo_ret [I0,S0,.int .i64 3] rfl ⟨rfl,rfl,rfl,trivial⟩ ?_))))
   exact⟨_,rfl,rfl,hw2⟩
  · 
   have hYz:Y≠0:=fun e=>hny (by rw [←hly,e];rfl)
   by_cases hn1:n8=1
   · 
    obtain⟨hY32,hg0⟩:=sp_one hYz (by omega)
    by_cases hg1:(db 4294967296 (Y)).getD 0 0=1
    · 
     refine cw_region (mv 1 rfl (pu (v:= .int .i64 ((n4:Nat):Int)) rfl (by kernel_rfl) (wl_cmp rfl rfl rfl false (cb_eq_f (a:=n4) (b:=0) rfl rfl (by omega)) (by decide) (mv 2 rfl (pu (v:= .int .i64 ((n8:Nat):Int)) rfl (by kernel_rfl) (wl_cmp rfl rfl rfl false (cb_eq_f (a:=n8) (b:=0) rfl rfl (by omega)) (by decide) (pu (v:= .bool false) rfl (by kernel_rfl) (mv 2 rfl (pu (v:= .int .i64 ((n8:Nat):Int)) rfl (by kernel_rfl) (wl_cmp rfl rfl rfl true (cb_eq_t (a:=n8) (b:=1) rfl rfl (by omega)) (by decide) (mv 2 rfl ?_)))))))))))
     obtain⟨p9,hp9,hc9,hv9⟩:=((od_rd od8)).at (i:=0) (by omega)
     refine wl_idx rfl rfl rfl un_u64 sz_u64 0 rfl (by omega) p9 hp9 (by decide) (wl_load rfl rfl (load_cell1 ag_u64 hc9) (by decide) (wl_cmp rfl rfl rfl true (cb_eq_t (a:=(db 4294967296 (Y)).getD 0 0) (b:=1) rfl rfl (by omega)) (by decide) (pu (v:= .bool true) rfl (by kernel_rfl) (pu (v:= .bool true) rfl (by kernel_rfl) (ne_ (cw_true rfl (sr (mv 3 rfl (ne_ (cw_ret (eo_thenR (eo_ret [I0,S0,.int .i64 3] rfl ⟨rfl,rfl,rfl,trivial⟩ ?_))))))))))))
     exact⟨_,rfl,rfl,hw2⟩
    · 
     have hY2:2≤Y:=(by omega)
     exact absurd hg (by omega)
   · 
    have hY2:2≤Y:=(by refine Nat.le_of_not_lt fun h=>?_;have h3:Y=1:=(by omega);exact hn1 (by rw [←hly,h3,db_one];rfl))
    exact absurd hg (by omega)
set_option maxHeartbeats 8000000 in
theorem ref3_Strip {w:World}{A D:Option Addr}{n cap m cd X Y:Nat}{xs ys:List Nat}(hx:Rd w A n cap xs) (hln:n≤268435456) (hy:Rd w D m cd ys) (hlm:m≤268435456) (hX:nv xs=X) (hY:nv ys=Y) (hg:X≠0∧2≤Y):
    Calls Try.prog 64 #[.slice A n cap,.slice D m cd] w (fun e w'=>∃q L,L*Y^q=X∧L%Y≠0∧Gv w (T3 (Is (.int .i64 ((q:Nat):Int))) (WR w.heap.size L) (Is (.int .i64 0))) e w'):=by
 have hbx:blen X≤17179869184:=by have h:=blen_le (n:=nv xs) (k:=64*n) (by rw [Nat.pow_mul,←WB_pow,←hx.len];exact nv_lt hx.wf);rw [hX] at h;omega
 refine sx_enter Try.func64 rfl (n:=87) rfl (bq rfl) (args:= [.slice A n cap,.slice D m cd]) (cw_keep [(0,.slice A n cap),(1,.slice D m cd)] ⟨rfl,rfl,trivial⟩ (sr (mv 3 rfl (ne_ (sr (mv 1 rfl (wl_call rfl rfl (vs:= [.slice A n cap]) (by kernel_rfl) (by decide) (by have h:=ref3_halvesO_ (Ext.refl w).size hx (by omega);rw [hX] at h;exact h) ?_)))))))
 rintro _ v1 ⟨xr3,rfl,r3,e2⟩
 refine ret_intro ?_
 have hw1:=(Ext.refl w).trans e2
 obtain⟨A4,n4,c4,rfl,od4⟩:=r3
 refine mv 1 rfl (ne_ (sr (mv 1 rfl (wl_call rfl rfl (vs:= [.slice D m cd]) (by kernel_rfl) (by decide) (by have h:=ref3_halvesO_ hw1.size (hy.ext e2) (by omega);rw [hY] at h;exact h) ?_))))
 rintro _ v5 ⟨xr7,rfl,r7,e6⟩
 refine ret_intro ?_
 have hw2:=hw1.trans e6
 obtain⟨A8,n8,c8,rfl,od8⟩:=r7
 refine mv 1 rfl (ne_ (cw_seq (cw_seq ?_)))
 have hlx:=od_len (od4.ext e6)
 have hly:=od_len od8
 have hlxn:n4≤2*n:=by have h:=len_db32 hx.wf;rw [hx.len,hX] at h;omega
 have hlyn:n8≤2*m:=by have h:=len_db32 hy.wf;rw [hy.len,hY] at h;omega
 by_cases hnx:n4=0
 · 
  exact absurd ((len_db_zero b32 (n:=X)).1 (by omega)) hg.1
 · 
  have hXz:X≠0:=fun e=>hnx (by rw [←hlx,e];rfl)
  by_cases hny:n8=0
  · 
   exact absurd hg.2 (by have h:=(len_db_zero b32 (n:=Y)).1 (by omega);omega)
  · 
   have hYz:Y≠0:=fun e=>hny (by rw [←hly,e];rfl)
   by_cases hn1:n8=1
   · 
    obtain⟨hY32,hg0⟩:=sp_one hYz (by omega)
    by_cases hg1:(db 4294967296 (Y)).getD 0 0=1
    · 
     exact absurd hg.2 (by omega)
    · 
     refine cw_region (mv 1 rfl (pu (v:= .int .i64 ((n4:Nat):Int)) rfl (by kernel_rfl) (wl_cmp rfl rfl rfl false (cb_eq_f (a:=n4) (b:=0) rfl rfl (by omega)) (by decide) (mv 2 rfl (pu (v:= .int .i64 ((n8:Nat):Int)) rfl (by kernel_rfl) (wl_cmp rfl rfl rfl false (cb_eq_f (a:=n8) (b:=0) rfl rfl (by omega)) (by decide) (pu (v:= .bool false) rfl (by kernel_rfl) (mv 2 rfl (pu (v:= .int .i64 ((n8:Nat):Int)) rfl (by kernel_rfl) (wl_cmp rfl rfl rfl true (cb_eq_t (a:=n8) (b:=1) rfl rfl (by omega)) (by decide) (mv 2 rfl ?_)))))))))))
     obtain⟨p9,hp9,hc9,hv9⟩:=((od_rd od8)).at (i:=0) (by omega)
     refine wl_idx rfl rfl rfl un_u64 sz_u64 0 rfl (by omega) p9 hp9 (by decide) (wl_load rfl rfl (load_cell1 ag_u64 hc9) (by decide) (wl_cmp rfl rfl rfl false (cb_eq_f (a:=(db 4294967296 (Y)).getD 0 0) (b:=1) rfl rfl (by omega)) (by decide) (pu (v:= .bool false) rfl (by kernel_rfl) (pu (v:= .bool false) rfl (by kernel_rfl) (ne_ (cw_false rfl (cw_skip (eo_then (cw_seq ?_)))))))))
     have hY2:2≤Y:=(by omega)
     refine cw_region (mv 1 rfl (ne_ (sr (mv 2 rfl (cl (vs:= [.slice A4 n4 c4,.slice A8 n8 c8]) hw2 (ref3_below (od_rd (od4.ext e6)) (by omega) (od_rd od8) (by omega)) rfl (by kernel_rfl) fun xr12 v10 r12 e11 hw3=>?_)))))
     obtain rfl:=r12
     refine mv 1 rfl (ne_ (cw_seq (cw_block ?_)))
     refine cw_loop (T:=World×Nat×Option Addr×Nat×List Value×Option Addr×Nat×Nat×Nat×Bool)
      (fun⟨wr,I,PA,pc,vs,yA,yn,yc,Z,ov⟩=> [(7,.slice A4 n4 c4),(8,.slice yA yn yc),(9,.slice PA I pc),(10,.bool ov)])
      (fun⟨wr,I,PA,pc,vs,yA,yn,yc,Z,ov⟩=>wr)
      (fun⟨wr,I,PA,pc,vs,yA,yn,yc,Z,ov⟩=>(Ext w wr)∧(I≤blen X+1)∧(Own wr w.heap.size 24 1 A4 n4 c4 ((db 4294967296 X).map W64))∧(Own wr w.heap.size 24 1 yA yn yc ((db 4294967296 Z).map W64))∧(Own wr w.heap.size 22 1 PA I pc vs)∧(Pows wr w.heap.size Y n4 I vs)∧(Z=Y^2^I)∧(ov=decide (X<Z))∧(yn≤4294967296))
      (fun⟨wr,I,PA,pc,vs,yA,yn,yc,Z,ov⟩=>X+1-Z)
      (⟨v10,0,none,0,[],_,_,_,Y,_⟩:World×Nat×Option Addr×Nat×List Value×Option Addr×Nat×Nat×Nat×Bool) ⟨hw3,(by omega),(od4.ext (e6.trans e11)),(od8.ext e11),(Own.nil _ _ _ _),(Pows.nil _ _ _ _),(by rw [Nat.pow_zero,Nat.pow_one]),rfl,(by omega)⟩ rfl ⟨rfl,rfl,rfl,rfl,trivial⟩ ?_
     rintro⟨wr,I,PA,pc,vs,yA,yn,yc,Z,ov⟩ ⟨hw1,hI1,hox,hoy,hop,hpw,hZ,hov,hn8⟩
     refine cw_re [(7,.slice A4 n4 c4),(8,.slice yA yn yc),(9,.slice PA I pc),(10,.bool ov)] wr rfl ⟨rfl,rfl,rfl,rfl,trivial⟩ (cw_seq (cw_seq ?_))
     have hlz:=od_len hoy
     have hlx2:=od_len hox
     by_cases hXZ:X<Z
     · 
      obtain rfl:ov=true:=by rw [hov];exact decide_eq_true hXZ
      have htop:X<Y^2^I:=by rw [←hZ];exact hXZ
      refine cw_region (mv 1 rfl (pu (v:= .bool false) rfl (by kernel_rfl) (ne_ (cw_false rfl (cw_exit (eo_thenX (eo_loopX (eo_block_here (eo_then (sr (mv 1 rfl (ne_ (cw_seq ?_)))))))))))))
      refine sr (mv 1 rfl (pu (v:= .int .i64 ((I:Nat):Int)) rfl (by kernel_rfl) (wl_ar rfl rfl rfl (((I:Nat):Int)-1) (ar_i64s rfl (by omega) (by omega)) (by decide) (mv 1 rfl (ne_ (cw_block ?_))))))
      have hpw1:=hpw
      refine cw_loop (T:=World×Nat×Int×Nat×Option Addr×Nat×Nat×Nat)
       (fun⟨wr2,k,ii,q,xA,xn,xc,L⟩=> [(7,.slice xA xn xc),(9,.slice PA I pc),(11,.int .i64 ((q:Nat):Int)),(12,.int .i64 ii)])
       (fun⟨wr2,k,ii,q,xA,xn,xc,L⟩=>wr2)
       (fun⟨wr2,k,ii,q,xA,xn,xc,L⟩=>(Ext w wr2)∧(k≤I)∧(ii=(k:Int)-1)∧(Own wr2 w.heap.size 22 1 PA I pc vs)∧(Pows wr2 w.heap.size Y n4 I vs)∧(L*Y^(q*2^k)=X)∧(L%Y^2^k≠0)∧(xn≤n4)∧(True)∧(Rd wr2 xA xn xc (db 4294967296 (L))))
       (fun⟨wr2,k,ii,q,xA,xn,xc,L⟩=>k)
       (⟨wr,I,_,0,_,_,_,X⟩:World×Nat×Int×Nat×Option Addr×Nat×Nat×Nat) ⟨hw1,(Nat.le_refl _),(by omega),hop,hpw1,(by rw [Nat.zero_mul,Nat.pow_zero,Nat.mul_one]),(by rw [Nat.mod_eq_of_lt htop];exact hXz),(Nat.le_refl _),trivial,(od_rd hox)⟩ rfl ⟨rfl,rfl,rfl,rfl,trivial⟩ ?_
      rintro⟨wr2,k,ii,q,xA,xn,xc,L⟩ ⟨hw1,hk,hii,hop2,hpw2,hL,hLn,hn7,hLn0,rl7⟩
      refine cw_re [(7,.slice xA xn xc),(9,.slice PA I pc),(11,.int .i64 ((q:Nat):Int)),(12,.int .i64 ii)] wr2 rfl ⟨rfl,rfl,rfl,rfl,trivial⟩ (cw_seq (cw_seq ?_))
      by_cases hk0:0<k
      · 
       obtain⟨j,rfl⟩:∃j,k=j+1:=⟨k-1,by omega⟩
       obtain rfl:ii=(j:Int):=by omega
       refine cw_region (mv 1 rfl (wl_cmp rfl rfl rfl true (cb_ge_t (a:=j) (b:=0) rfl rfl (by omega)) (by decide) (ne_ (cw_true rfl (cw_skip (eo_then (cw_seq (cw_block (cw_seq ?_)))))))))
       have hqb:=sp_bound hXz hY2 hL
       refine cw_region (mv 1 rfl (wl_ar rfl rfl rfl ((2*q:Nat):Int) (ai_mul (a:=2) (b:=q) rfl rfl (by omega)) (by decide) (mv 1 rfl (ne_ (sr (mv 3 rfl ?_))))))
       obtain⟨p13,hp13,hc13⟩:=own_cell hop2 (i:=j) (by omega)
       obtain⟨Ae13,ke13,ce13,hve13,hke13,hoe13⟩:=(hpw2).2 j (by omega)
       rw [hve13] at hc13
       refine wl_idx rfl rfl rfl un_wl sz_wl j rfl (by omega) p13 hp13 (by decide) (wl_load rfl rfl (load_cell1 ag_wl hc13) (by decide) (cl (vs:= [.slice xA xn xc,.slice Ae13 ke13 ce13]) hw1 (ref3_divide_ rl7 (by omega) (od_rd hoe13) (by omega) (Nat.pos_iff_ne_zero.1 (Nat.pow_pos (by omega)))) rfl (by kernel_rfl) fun xr16 v14 r16 e15 hw2=>?_))
       obtain⟨_,_,rfl,⟨A18,n18,c18,rfl,rd18⟩,⟨A19,n19,c19,rfl,rd19⟩⟩:=r16
       refine mv 1 rfl (pu (v:= .slice A18 n18 c18) rfl (by kernel_rfl) (pu (v:= .slice A19 n19 c19) rfl (by kernel_rfl) (mv 2 rfl (ne_ (cw_seq ?_)))))
       have hlr:=rd19.len
       by_cases hrz:n19=0
       · 
        have hdv:L%Y^2^j=0:=(len_db_zero b32).1 (by omega)
        refine cw_region (mv 1 rfl (pu (v:= .int .i64 ((n19:Nat):Int)) rfl (by kernel_rfl) (wl_cmp rfl rfl rfl true (cb_eq_t (a:=n19) (b:=0) rfl rfl (by omega)) (by decide) (ne_ (cw_true rfl (sr (mv 2 rfl (ne_ (cw_region (mv 1 rfl (wl_ar rfl rfl rfl (((2*q)+1:Nat):Int) (ai_add (a:=2*q) (b:=1) rfl rfl (by omega)) (by decide) (mv 1 rfl (wl_nil ?_)))))))))))))
        refine eo_block_normal (eo_then (cw_region (mv 1 rfl (wl_ar rfl rfl rfl (((j:Nat):Int)-1) (ar_i64s rfl (by omega) (by omega)) (by decide) (mv 1 rfl (wl_nil (eo_round (⟨v14,j,_,2*q+1,_,_,_,_⟩:World×Nat×Int×Nat×Option Addr×Nat×Nat×Nat) ⟨hw2,(by omega),rfl,(hop2.ext e15),(hpw2.ext e15),(sp_yes hL hdv),(strip_still hY2 hLn hdv),(by have h1:=len_db_mono b32 (Nat.div_le_self L (Y^2^j));have h2:=rd18.len;have h3:=rl7.len;omega),hLn0,rd18⟩ (show j<j+1 by omega) rfl ⟨rfl,rfl,rfl,rfl,trivial⟩)))))))
       · 
        have hdv:L%Y^2^j≠0:=fun e=>hrz (by rw [←hlr,e];rfl)
        refine cw_region (mv 1 rfl (pu (v:= .int .i64 ((n19:Nat):Int)) rfl (by kernel_rfl) (wl_cmp rfl rfl rfl false (cb_eq_f (a:=n19) (b:=0) rfl rfl (by omega)) (by decide) (ne_ (cw_false rfl (cw_skip (eo_block_normal (eo_then (cw_region (mv 1 rfl (wl_ar rfl rfl rfl (((j:Nat):Int)-1) (ar_i64s rfl (by omega) (by omega)) (by decide) (mv 1 rfl (wl_nil ?_)))))))))))))
        refine eo_round (⟨v14,j,_,2*q,_,_,_,L⟩:World×Nat×Int×Nat×Option Addr×Nat×Nat×Nat) ⟨hw2,(by omega),rfl,(hop2.ext e15),(hpw2.ext e15),(sp_no hL),hdv,hn7,hLn0,(rl7.ext e15)⟩ (show j<j+1 by omega) rfl ⟨rfl,rfl,rfl,rfl,trivial⟩
      · 
       obtain rfl:k=0:=by omega
       refine cw_region (mv 1 rfl (wl_cmp rfl rfl rfl false (ge_f (by omega)) (by decide) (ne_ (cw_false rfl (cw_exit (eo_thenX (eo_loopX (eo_block_here (eo_then (sr (mv 2 rfl (cl (vs:= [.slice xA xn xc]) hw1 (ref3_words_ hw1.size rl7 (by omega)) rfl (by kernel_rfl) fun xr22 v20 r22 e21 hw2=>?_))))))))))))
       obtain⟨A23,n23,c23,rfl,j23,o23⟩:=r22
       refine mv 3 rfl (ne_ (cw_ret (eo_ret [.int .i64 ((q:Nat):Int),.slice A23 n23 c23,I0] rfl ⟨rfl,rfl,rfl,trivial⟩ ?_)))
       rw [Nat.pow_zero,Nat.mul_one] at hL
       rw [Nat.pow_zero,Nat.pow_one] at hLn
       exact⟨q,L,hL,hLn,_,rfl,⟨_,_,_,rfl,rfl,⟨_,_,_,rfl,j23,o23⟩,rfl⟩,hw2⟩
     · 
      obtain rfl:ov=false:=by rw [hov];exact decide_eq_false hXZ
      have hn8x:yn≤n4:=by have h:=len_db_mono b32 (show Z≤X by omega);omega
      have hZ2:2≤Z:=by rw [hZ];have h:Y^1≤Y^2^I:=Nat.pow_le_pow_right (by omega) (Nat.two_pow_pos I);rw [Nat.pow_one] at h;omega
      have hyn1:1≤yn:=Nat.pos_of_ne_zero fun e=>by have:=(len_db_zero b32).1 (show (db 4294967296 Z).length=0 by omega);omega
      have hIX:=sp_I hY2 hZ (show Z≤X by omega)
      refine cw_region (mv 1 rfl (pu (v:= .bool true) rfl (by kernel_rfl) (ne_ (cw_true rfl (cw_skip (eo_then (cw_block (sr (mv 2 rfl (wl_bslice rfl rfl (by decide) (k:=1) (e:=22) [.slice yA yn yc] (fun _=>by kernel_rfl) fun g24 v25 nb=>?_))))))))))
      have hb26:=nb.bk
      have e27:=nb.ext
      clear nb
      have hw2:=hw1.trans e27
      have ow28:=(hop.ext e27)
      refine wl_app rfl rfl rfl un_wl infoW rfl (by decide) (by decide) ow28 hw2.size [.slice yA yn yc] rfl (one_news3 _ hb26) rfl (by omega) (by decide) fun A29 c30 v31 ho32 uo33 kp34=>?_
      have hw3:=uo33.ext hw2 (fun p hp=>(ow28.block p hp).1)
      have pw35:=Pows.snoc ((hpw.ext e27).updO ow28 uo33) (by omega) (by rw [←hZ];exact ((hoy.ext e27).updOT ow28 (by decide) uo33))
      refine mv 1 rfl (ne_ (cw_seq (cw_seq ?_)))
      by_cases hbr:(2*yn)-1>n4
      · 
       have htop:X<Y^2^(I+1):=by rw [Nat.pow_succ,Nat.mul_comm (2^I),Nat.two_mul,Nat.pow_add,←hZ];exact sp_break hlx2 hlz (by omega) (by omega)
       refine cw_region (mv 1 rfl (pu (v:= .int .i64 ((yn:Nat):Int)) rfl (by kernel_rfl) (wl_ar rfl rfl rfl ((2*yn:Nat):Int) (ai_mul (a:=2) (b:=yn) rfl rfl (by omega)) (by decide) (wl_ar rfl rfl rfl (((2*yn)-1:Nat):Int) (ai_sub (a:=2*yn) (b:=1) rfl rfl (by omega) (by omega)) (by decide) (mv 1 rfl (pu (v:= .int .i64 ((n4:Nat):Int)) rfl (by kernel_rfl) (wl_cmp rfl rfl rfl true (cb_gt_t (a:=(2*yn)-1) (b:=n4) rfl rfl (by omega)) (by decide) (ne_ (cw_true rfl (cw_exit (eo_thenX (eo_block_far (by decide) (eo_loopX ?_)))))))))))))
       refine eo_block_here (eo_then (sr (mv 1 rfl (ne_ (cw_seq (sr (mv 1 rfl (pu (v:= .int .i64 (((I+1):Nat):Int)) rfl (by kernel_rfl) (wl_ar rfl rfl rfl ((((I+1):Nat):Int)-1) (ar_i64s rfl (by omega) (by omega)) (by decide) (mv 1 rfl (ne_ (cw_block ?_))))))))))))
       have hpw1:=pw35
       refine cw_loop (T:=World×Nat×Int×Nat×Option Addr×Nat×Nat×Nat)
        (fun⟨wr2,k,ii,q,xA,xn,xc,L⟩=> [(7,.slice xA xn xc),(9,.slice A29 (I+1) c30),(11,.int .i64 ((q:Nat):Int)),(12,.int .i64 ii)])
        (fun⟨wr2,k,ii,q,xA,xn,xc,L⟩=>wr2)
        (fun⟨wr2,k,ii,q,xA,xn,xc,L⟩=>(Ext w wr2)∧(k≤(I+1))∧(ii=(k:Int)-1)∧(Own wr2 w.heap.size 22 1 A29 (I+1) c30 (vs++ [.slice yA yn yc]))∧(Pows wr2 w.heap.size Y n4 (I+1) (vs++ [.slice yA yn yc]))∧(L*Y^(q*2^k)=X)∧(L%Y^2^k≠0)∧(xn≤n4)∧(True)∧(Rd wr2 xA xn xc (db 4294967296 (L))))
        (fun⟨wr2,k,ii,q,xA,xn,xc,L⟩=>k)
        (⟨v31,(I+1),_,0,_,_,_,X⟩:World×Nat×Int×Nat×Option Addr×Nat×Nat×Nat) ⟨hw3,(Nat.le_refl _),(by omega),ho32,hpw1,(by rw [Nat.zero_mul,Nat.pow_zero,Nat.mul_one]),(by rw [Nat.mod_eq_of_lt htop];exact hXz),(Nat.le_refl _),trivial,(od_rd ((hox.ext e27).updOT ow28 (by decide) uo33))⟩ rfl ⟨rfl,rfl,rfl,rfl,trivial⟩ ?_
       rintro⟨wr2,k,ii,q,xA,xn,xc,L⟩ ⟨hw1,hk,hii,hop2,hpw2,hL,hLn,hn7,hLn0,rl7⟩
       refine cw_re [(7,.slice xA xn xc),(9,.slice A29 (I+1) c30),(11,.int .i64 ((q:Nat):Int)),(12,.int .i64 ii)] wr2 rfl ⟨rfl,rfl,rfl,rfl,trivial⟩ (cw_seq (cw_seq ?_))
       by_cases hk0:0<k
       · 
        obtain⟨j,rfl⟩:∃j,k=j+1:=⟨k-1,by omega⟩
        obtain rfl:ii=(j:Int):=by omega
        refine cw_region (mv 1 rfl (wl_cmp rfl rfl rfl true (cb_ge_t (a:=j) (b:=0) rfl rfl (by omega)) (by decide) (ne_ (cw_true rfl (cw_skip (eo_then (cw_seq (cw_block (cw_seq ?_)))))))))
        have hqb:=sp_bound hXz hY2 hL
        refine cw_region (mv 1 rfl (wl_ar rfl rfl rfl ((2*q:Nat):Int) (ai_mul (a:=2) (b:=q) rfl rfl (by omega)) (by decide) (mv 1 rfl (ne_ (sr (mv 3 rfl ?_))))))
        obtain⟨p36,hp36,hc36⟩:=own_cell hop2 (i:=j) (by omega)
        obtain⟨Ae36,ke36,ce36,hve36,hke36,hoe36⟩:=(hpw2).2 j (by omega)
        rw [hve36] at hc36
        refine wl_idx rfl rfl rfl un_wl sz_wl j rfl (by omega) p36 hp36 (by decide) (wl_load rfl rfl (load_cell1 ag_wl hc36) (by decide) (cl (vs:= [.slice xA xn xc,.slice Ae36 ke36 ce36]) hw1 (ref3_divide_ rl7 (by omega) (od_rd hoe36) (by omega) (Nat.pos_iff_ne_zero.1 (Nat.pow_pos (by omega)))) rfl (by kernel_rfl) fun xr39 v37 r39 e38 hw2=>?_))
        obtain⟨_,_,rfl,⟨A41,n41,c41,rfl,rd41⟩,⟨A42,n42,c42,rfl,rd42⟩⟩:=r39
        refine mv 1 rfl (pu (v:= .slice A41 n41 c41) rfl (by kernel_rfl) (pu (v:= .slice A42 n42 c42) rfl (by kernel_rfl) (mv 2 rfl (ne_ (cw_seq ?_)))))
        have hlr:=rd42.len
        by_cases hrz:n42=0
        · 
         have hdv:L%Y^2^j=0:=(len_db_zero b32).1 (by omega)
         refine cw_region (mv 1 rfl (pu (v:= .int .i64 ((n42:Nat):Int)) rfl (by kernel_rfl) (wl_cmp rfl rfl rfl true (cb_eq_t (a:=n42) (b:=0) rfl rfl (by omega)) (by decide) (ne_ (cw_true rfl (sr (mv 2 rfl (ne_ (cw_region (mv 1 rfl (wl_ar rfl rfl rfl (((2*q)+1:Nat):Int) (ai_add (a:=2*q) (b:=1) rfl rfl (by omega)) (by decide) (mv 1 rfl (wl_nil ?_)))))))))))))
         refine eo_block_normal (eo_then (cw_region (mv 1 rfl (wl_ar rfl rfl rfl (((j:Nat):Int)-1) (ar_i64s rfl (by omega) (by omega)) (by decide) (mv 1 rfl (wl_nil (eo_round (⟨v37,j,_,2*q+1,_,_,_,_⟩:World×Nat×Int×Nat×Option Addr×Nat×Nat×Nat) ⟨hw2,(by omega),rfl,(hop2.ext e38),(hpw2.ext e38),(sp_yes hL hdv),(strip_still hY2 hLn hdv),(by have h1:=len_db_mono b32 (Nat.div_le_self L (Y^2^j));have h2:=rd41.len;have h3:=rl7.len;omega),hLn0,rd41⟩ (show j<j+1 by omega) rfl ⟨rfl,rfl,rfl,rfl,trivial⟩)))))))
        · 
         have hdv:L%Y^2^j≠0:=fun e=>hrz (by rw [←hlr,e];rfl)
         refine cw_region (mv 1 rfl (pu (v:= .int .i64 ((n42:Nat):Int)) rfl (by kernel_rfl) (wl_cmp rfl rfl rfl false (cb_eq_f (a:=n42) (b:=0) rfl rfl (by omega)) (by decide) (ne_ (cw_false rfl (cw_skip (eo_block_normal (eo_then (cw_region (mv 1 rfl (wl_ar rfl rfl rfl (((j:Nat):Int)-1) (ar_i64s rfl (by omega) (by omega)) (by decide) (mv 1 rfl (wl_nil ?_)))))))))))))
         refine eo_round (⟨v37,j,_,2*q,_,_,_,L⟩:World×Nat×Int×Nat×Option Addr×Nat×Nat×Nat) ⟨hw2,(by omega),rfl,(hop2.ext e38),(hpw2.ext e38),(sp_no hL),hdv,hn7,hLn0,(rl7.ext e38)⟩ (show j<j+1 by omega) rfl ⟨rfl,rfl,rfl,rfl,trivial⟩
       · 
        obtain rfl:k=0:=by omega
        refine cw_region (mv 1 rfl (wl_cmp rfl rfl rfl false (ge_f (by omega)) (by decide) (ne_ (cw_false rfl (cw_exit (eo_thenX (eo_loopX (eo_block_here (eo_then (sr (mv 2 rfl (cl (vs:= [.slice xA xn xc]) hw1 (ref3_words_ hw1.size rl7 (by omega)) rfl (by kernel_rfl) fun xr45 v43 r45 e44 hw2=>?_))))))))))))
        obtain⟨A46,n46,c46,rfl,j46,o46⟩:=r45
        refine mv 3 rfl (ne_ (cw_ret (eo_ret [.int .i64 ((q:Nat):Int),.slice A46 n46 c46,I0] rfl ⟨rfl,rfl,rfl,trivial⟩ ?_)))
        rw [Nat.pow_zero,Nat.mul_one] at hL
        rw [Nat.pow_zero,Nat.pow_one] at hLn
        exact⟨q,L,hL,hLn,_,rfl,⟨_,_,_,rfl,rfl,⟨_,_,_,rfl,j46,o46⟩,rfl⟩,hw2⟩
      · 
       refine cw_region (mv 1 rfl (pu (v:= .int .i64 ((yn:Nat):Int)) rfl (by kernel_rfl) (wl_ar rfl rfl rfl ((2*yn:Nat):Int) (ai_mul (a:=2) (b:=yn) rfl rfl (by omega)) (by decide) (wl_ar rfl rfl rfl (((2*yn)-1:Nat):Int) (ai_sub (a:=2*yn) (b:=1) rfl rfl (by omega) (by omega)) (by decide) (mv 1 rfl (pu (v:= .int .i64 ((n4:Nat):Int)) rfl (by kernel_rfl) (wl_cmp rfl rfl rfl false (cb_gt_f (a:=(2*yn)-1) (b:=n4) rfl rfl (by omega)) (by decide) (ne_ (cw_false rfl (cw_skip (eo_then (sr (mv 1 rfl ?_)))))))))))))
       refine mv 1 rfl (cl (vs:= [.slice yA yn yc,.slice yA yn yc]) hw3 (ref3_timesO hw3.size (od_rd ((hoy.ext e27).updOT ow28 (by decide) uo33)) (by omega) (od_rd ((hoy.ext e27).updOT ow28 (by decide) uo33)) (by omega)) rfl (by kernel_rfl) fun xr49 v47 r49 e48 hw4=>?_)
       obtain⟨A50,n50,c50,rfl,od50⟩:=r49
       refine mv 1 rfl (ne_ ?_)
       have hlzz:=od_len od50
       have hmlz:=len_db_mul (x:=Z) (y:=Z)
       refine cw_region (mv 2 rfl (cl (vs:= [.slice A4 n4 c4,.slice A50 n50 c50]) hw4 (ref3_below (od_rd (((hox.ext e27).updOT ow28 (by decide) uo33).ext e48)) (by omega) (od_rd od50) (by omega)) rfl (by kernel_rfl) fun xr53 v51 r53 e52 hw5=>?_))
       obtain rfl:=r53
       refine mv 1 rfl (wl_nil (eo_block_normal (eo_round (⟨v51,I+1,_,_,_,_,_,_,_,_⟩:World×Nat×Option Addr×Nat×List Value×Option Addr×Nat×Nat×Nat×Bool) ⟨hw5,(by omega),(((hox.ext e27).updOT ow28 (by decide) uo33).ext (e48.trans e52)),(od50.ext e52),(ho32.ext (e48.trans e52)),(pw35.ext (e48.trans e52)),(by rw [hZ,←Nat.pow_add,←Nat.two_mul,Nat.pow_succ,Nat.mul_comm (2^I)]),rfl,(by omega)⟩ (show X+1-Z*Z<X+1-Z by have h:Z*2≤Z*Z:=Nat.mul_le_mul_left Z hZ2;omega) rfl ⟨rfl,rfl,rfl,rfl,trivial⟩)))
   · 
    refine cw_region (mv 1 rfl (pu (v:= .int .i64 ((n4:Nat):Int)) rfl (by kernel_rfl) (wl_cmp rfl rfl rfl false (cb_eq_f (a:=n4) (b:=0) rfl rfl (by omega)) (by decide) (mv 2 rfl (pu (v:= .int .i64 ((n8:Nat):Int)) rfl (by kernel_rfl) (wl_cmp rfl rfl rfl false (cb_eq_f (a:=n8) (b:=0) rfl rfl (by omega)) (by decide) (pu (v:= .bool false) rfl (by kernel_rfl) (mv 2 rfl (pu (v:= .int .i64 ((n8:Nat):Int)) rfl (by kernel_rfl) (wl_cmp rfl rfl rfl false (cb_eq_f (a:=n8) (b:=1) rfl rfl (by omega)) (by decide) (mv 5 rfl (pu (v:= .bool false) rfl (by kernel_rfl) (pu (v:= .bool false) rfl (by kernel_rfl) ?_)))))))))))))
    refine ne_ (cw_false rfl (cw_skip (eo_then (cw_seq ?_))))
    have hY2:2≤Y:=(by refine Nat.le_of_not_lt fun h=>?_;have h3:Y=1:=(by omega);exact hn1 (by rw [←hly,h3,db_one];rfl))
    refine cw_region (mv 1 rfl (ne_ (sr (mv 2 rfl (cl (vs:= [.slice A4 n4 c4,.slice A8 n8 c8]) hw2 (ref3_below (od_rd (od4.ext e6)) (by omega) (od_rd od8) (by omega)) rfl (by kernel_rfl) fun xr56 v54 r56 e55 hw3=>?_)))))
    obtain rfl:=r56
    refine mv 1 rfl (ne_ (cw_seq (cw_block ?_)))
    refine cw_loop (T:=World×Nat×Option Addr×Nat×List Value×Option Addr×Nat×Nat×Nat×Bool)
     (fun⟨wr,I,PA,pc,vs,yA,yn,yc,Z,ov⟩=> [(7,.slice A4 n4 c4),(8,.slice yA yn yc),(9,.slice PA I pc),(10,.bool ov)])
     (fun⟨wr,I,PA,pc,vs,yA,yn,yc,Z,ov⟩=>wr)
     (fun⟨wr,I,PA,pc,vs,yA,yn,yc,Z,ov⟩=>(Ext w wr)∧(I≤blen X+1)∧(Own wr w.heap.size 24 1 A4 n4 c4 ((db 4294967296 X).map W64))∧(Own wr w.heap.size 24 1 yA yn yc ((db 4294967296 Z).map W64))∧(Own wr w.heap.size 22 1 PA I pc vs)∧(Pows wr w.heap.size Y n4 I vs)∧(Z=Y^2^I)∧(ov=decide (X<Z))∧(yn≤4294967296))
     (fun⟨wr,I,PA,pc,vs,yA,yn,yc,Z,ov⟩=>X+1-Z)
     (⟨v54,0,none,0,[],_,_,_,Y,_⟩:World×Nat×Option Addr×Nat×List Value×Option Addr×Nat×Nat×Nat×Bool) ⟨hw3,(by omega),(od4.ext (e6.trans e55)),(od8.ext e55),(Own.nil _ _ _ _),(Pows.nil _ _ _ _),(by rw [Nat.pow_zero,Nat.pow_one]),rfl,(by omega)⟩ rfl ⟨rfl,rfl,rfl,rfl,trivial⟩ ?_
    rintro⟨wr,I,PA,pc,vs,yA,yn,yc,Z,ov⟩ ⟨hw1,hI1,hox,hoy,hop,hpw,hZ,hov,hn8⟩
    refine cw_re [(7,.slice A4 n4 c4),(8,.slice yA yn yc),(9,.slice PA I pc),(10,.bool ov)] wr rfl ⟨rfl,rfl,rfl,rfl,trivial⟩ (cw_seq (cw_seq ?_))
    have hlz:=od_len hoy
    have hlx2:=od_len hox
    by_cases hXZ:X<Z
    · 
     obtain rfl:ov=true:=by rw [hov];exact decide_eq_true hXZ
     have htop:X<Y^2^I:=by rw [←hZ];exact hXZ
     refine cw_region (mv 1 rfl (pu (v:= .bool false) rfl (by kernel_rfl) (ne_ (cw_false rfl (cw_exit (eo_thenX (eo_loopX (eo_block_here (eo_then (sr (mv 1 rfl (ne_ (cw_seq ?_)))))))))))))
     refine sr (mv 1 rfl (pu (v:= .int .i64 ((I:Nat):Int)) rfl (by kernel_rfl) (wl_ar rfl rfl rfl (((I:Nat):Int)-1) (ar_i64s rfl (by omega) (by omega)) (by decide) (mv 1 rfl (ne_ (cw_block ?_))))))
     have hpw1:=hpw
     refine cw_loop (T:=World×Nat×Int×Nat×Option Addr×Nat×Nat×Nat)
      (fun⟨wr2,k,ii,q,xA,xn,xc,L⟩=> [(7,.slice xA xn xc),(9,.slice PA I pc),(11,.int .i64 ((q:Nat):Int)),(12,.int .i64 ii)])
      (fun⟨wr2,k,ii,q,xA,xn,xc,L⟩=>wr2)
      (fun⟨wr2,k,ii,q,xA,xn,xc,L⟩=>(Ext w wr2)∧(k≤I)∧(ii=(k:Int)-1)∧(Own wr2 w.heap.size 22 1 PA I pc vs)∧(Pows wr2 w.heap.size Y n4 I vs)∧(L*Y^(q*2^k)=X)∧(L%Y^2^k≠0)∧(xn≤n4)∧(True)∧(Rd wr2 xA xn xc (db 4294967296 (L))))
      (fun⟨wr2,k,ii,q,xA,xn,xc,L⟩=>k)
      (⟨wr,I,_,0,_,_,_,X⟩:World×Nat×Int×Nat×Option Addr×Nat×Nat×Nat) ⟨hw1,(Nat.le_refl _),(by omega),hop,hpw1,(by rw [Nat.zero_mul,Nat.pow_zero,Nat.mul_one]),(by rw [Nat.mod_eq_of_lt htop];exact hXz),(Nat.le_refl _),trivial,(od_rd hox)⟩ rfl ⟨rfl,rfl,rfl,rfl,trivial⟩ ?_
     rintro⟨wr2,k,ii,q,xA,xn,xc,L⟩ ⟨hw1,hk,hii,hop2,hpw2,hL,hLn,hn7,hLn0,rl7⟩
     refine cw_re [(7,.slice xA xn xc),(9,.slice PA I pc),(11,.int .i64 ((q:Nat):Int)),(12,.int .i64 ii)] wr2 rfl ⟨rfl,rfl,rfl,rfl,trivial⟩ (cw_seq (cw_seq ?_))
     by_cases hk0:0<k
     · 
      obtain⟨j,rfl⟩:∃j,k=j+1:=⟨k-1,by omega⟩
      obtain rfl:ii=(j:Int):=by omega
      refine cw_region (mv 1 rfl (wl_cmp rfl rfl rfl true (cb_ge_t (a:=j) (b:=0) rfl rfl (by omega)) (by decide) (ne_ (cw_true rfl (cw_skip (eo_then (cw_seq (cw_block (cw_seq ?_)))))))))
      have hqb:=sp_bound hXz hY2 hL
      refine cw_region (mv 1 rfl (wl_ar rfl rfl rfl ((2*q:Nat):Int) (ai_mul (a:=2) (b:=q) rfl rfl (by omega)) (by decide) (mv 1 rfl (ne_ (sr (mv 3 rfl ?_))))))
      obtain⟨p57,hp57,hc57⟩:=own_cell hop2 (i:=j) (by omega)
      obtain⟨Ae57,ke57,ce57,hve57,hke57,hoe57⟩:=(hpw2).2 j (by omega)
      rw [hve57] at hc57
      refine wl_idx rfl rfl rfl un_wl sz_wl j rfl (by omega) p57 hp57 (by decide) (wl_load rfl rfl (load_cell1 ag_wl hc57) (by decide) (cl (vs:= [.slice xA xn xc,.slice Ae57 ke57 ce57]) hw1 (ref3_divide_ rl7 (by omega) (od_rd hoe57) (by omega) (Nat.pos_iff_ne_zero.1 (Nat.pow_pos (by omega)))) rfl (by kernel_rfl) fun xr60 v58 r60 e59 hw2=>?_))
      obtain⟨_,_,rfl,⟨A62,n62,c62,rfl,rd62⟩,⟨A63,n63,c63,rfl,rd63⟩⟩:=r60
      refine mv 1 rfl (pu (v:= .slice A62 n62 c62) rfl (by kernel_rfl) (pu (v:= .slice A63 n63 c63) rfl (by kernel_rfl) (mv 2 rfl (ne_ (cw_seq ?_)))))
      have hlr:=rd63.len
      by_cases hrz:n63=0
      · 
       have hdv:L%Y^2^j=0:=(len_db_zero b32).1 (by omega)
       refine cw_region (mv 1 rfl (pu (v:= .int .i64 ((n63:Nat):Int)) rfl (by kernel_rfl) (wl_cmp rfl rfl rfl true (cb_eq_t (a:=n63) (b:=0) rfl rfl (by omega)) (by decide) (ne_ (cw_true rfl (sr (mv 2 rfl (ne_ (cw_region (mv 1 rfl (wl_ar rfl rfl rfl (((2*q)+1:Nat):Int) (ai_add (a:=2*q) (b:=1) rfl rfl (by omega)) (by decide) (mv 1 rfl (wl_nil ?_)))))))))))))
       refine eo_block_normal (eo_then (cw_region (mv 1 rfl (wl_ar rfl rfl rfl (((j:Nat):Int)-1) (ar_i64s rfl (by omega) (by omega)) (by decide) (mv 1 rfl (wl_nil (eo_round (⟨v58,j,_,2*q+1,_,_,_,_⟩:World×Nat×Int×Nat×Option Addr×Nat×Nat×Nat) ⟨hw2,(by omega),rfl,(hop2.ext e59),(hpw2.ext e59),(sp_yes hL hdv),(strip_still hY2 hLn hdv),(by have h1:=len_db_mono b32 (Nat.div_le_self L (Y^2^j));have h2:=rd62.len;have h3:=rl7.len;omega),hLn0,rd62⟩ (show j<j+1 by omega) rfl ⟨rfl,rfl,rfl,rfl,trivial⟩)))))))
      · 
       have hdv:L%Y^2^j≠0:=fun e=>hrz (by rw [←hlr,e];rfl)
       refine cw_region (mv 1 rfl (pu (v:= .int .i64 ((n63:Nat):Int)) rfl (by kernel_rfl) (wl_cmp rfl rfl rfl false (cb_eq_f (a:=n63) (b:=0) rfl rfl (by omega)) (by decide) (ne_ (cw_false rfl (cw_skip (eo_block_normal (eo_then (cw_region (mv 1 rfl (wl_ar rfl rfl rfl (((j:Nat):Int)-1) (ar_i64s rfl (by omega) (by omega)) (by decide) (mv 1 rfl (wl_nil ?_)))))))))))))
       refine eo_round (⟨v58,j,_,2*q,_,_,_,L⟩:World×Nat×Int×Nat×Option Addr×Nat×Nat×Nat) ⟨hw2,(by omega),rfl,(hop2.ext e59),(hpw2.ext e59),(sp_no hL),hdv,hn7,hLn0,(rl7.ext e59)⟩ (show j<j+1 by omega) rfl ⟨rfl,rfl,rfl,rfl,trivial⟩
     · 
      obtain rfl:k=0:=by omega
      refine cw_region (mv 1 rfl (wl_cmp rfl rfl rfl false (ge_f (by omega)) (by decide) (ne_ (cw_false rfl (cw_exit (eo_thenX (eo_loopX (eo_block_here (eo_then (sr (mv 2 rfl (cl (vs:= [.slice xA xn xc]) hw1 (ref3_words_ hw1.size rl7 (by omega)) rfl (by kernel_rfl) fun xr66 v64 r66 e65 hw2=>?_))))))))))))
      obtain⟨A67,n67,c67,rfl,j67,o67⟩:=r66
      refine mv 3 rfl (ne_ (cw_ret (eo_ret [.int .i64 ((q:Nat):Int),.slice A67 n67 c67,I0] rfl ⟨rfl,rfl,rfl,trivial⟩ ?_)))
      rw [Nat.pow_zero,Nat.mul_one] at hL
      rw [Nat.pow_zero,Nat.pow_one] at hLn
      exact⟨q,L,hL,hLn,_,rfl,⟨_,_,_,rfl,rfl,⟨_,_,_,rfl,j67,o67⟩,rfl⟩,hw2⟩
    · 
     obtain rfl:ov=false:=by rw [hov];exact decide_eq_false hXZ
     have hn8x:yn≤n4:=by have h:=len_db_mono b32 (show Z≤X by omega);omega
     have hZ2:2≤Z:=by rw [hZ];have h:Y^1≤Y^2^I:=Nat.pow_le_pow_right (by omega) (Nat.two_pow_pos I);rw [Nat.pow_one] at h;omega
     have hyn1:1≤yn:=Nat.pos_of_ne_zero fun e=>by have:=(len_db_zero b32).1 (show (db 4294967296 Z).length=0 by omega);omega
     have hIX:=sp_I hY2 hZ (show Z≤X by omega)
     refine cw_region (mv 1 rfl (pu (v:= .bool true) rfl (by kernel_rfl) (ne_ (cw_true rfl (cw_skip (eo_then (cw_block (sr (mv 2 rfl (wl_bslice rfl rfl (by decide) (k:=1) (e:=22) [.slice yA yn yc] (fun _=>by kernel_rfl) fun g68 v69 nb=>?_))))))))))
     have hb70:=nb.bk
     have e71:=nb.ext
     clear nb
     have hw2:=hw1.trans e71
     have ow72:=(hop.ext e71)
     refine wl_app rfl rfl rfl un_wl infoW rfl (by decide) (by decide) ow72 hw2.size [.slice yA yn yc] rfl (one_news3 _ hb70) rfl (by omega) (by decide) fun A73 c74 v75 ho76 uo77 kp78=>?_
     have hw3:=uo77.ext hw2 (fun p hp=>(ow72.block p hp).1)
     have pw79:=Pows.snoc ((hpw.ext e71).updO ow72 uo77) (by omega) (by rw [←hZ];exact ((hoy.ext e71).updOT ow72 (by decide) uo77))
     refine mv 1 rfl (ne_ (cw_seq (cw_seq ?_)))
     by_cases hbr:(2*yn)-1>n4
     · 
      have htop:X<Y^2^(I+1):=by rw [Nat.pow_succ,Nat.mul_comm (2^I),Nat.two_mul,Nat.pow_add,←hZ];exact sp_break hlx2 hlz (by omega) (by omega)
      refine cw_region (mv 1 rfl (pu (v:= .int .i64 ((yn:Nat):Int)) rfl (by kernel_rfl) (wl_ar rfl rfl rfl ((2*yn:Nat):Int) (ai_mul (a:=2) (b:=yn) rfl rfl (by omega)) (by decide) (wl_ar rfl rfl rfl (((2*yn)-1:Nat):Int) (ai_sub (a:=2*yn) (b:=1) rfl rfl (by omega) (by omega)) (by decide) (mv 1 rfl (pu (v:= .int .i64 ((n4:Nat):Int)) rfl (by kernel_rfl) (wl_cmp rfl rfl rfl true (cb_gt_t (a:=(2*yn)-1) (b:=n4) rfl rfl (by omega)) (by decide) (ne_ (cw_true rfl (cw_exit (eo_thenX (eo_block_far (by decide) (eo_loopX ?_)))))))))))))
      refine eo_block_here (eo_then (sr (mv 1 rfl (ne_ (cw_seq (sr (mv 1 rfl (pu (v:= .int .i64 (((I+1):Nat):Int)) rfl (by kernel_rfl) (wl_ar rfl rfl rfl ((((I+1):Nat):Int)-1) (ar_i64s rfl (by omega) (by omega)) (by decide) (mv 1 rfl (ne_ (cw_block ?_))))))))))))
      have hpw1:=pw79
      refine cw_loop (T:=World×Nat×Int×Nat×Option Addr×Nat×Nat×Nat)
       (fun⟨wr2,k,ii,q,xA,xn,xc,L⟩=> [(7,.slice xA xn xc),(9,.slice A73 (I+1) c74),(11,.int .i64 ((q:Nat):Int)),(12,.int .i64 ii)])
       (fun⟨wr2,k,ii,q,xA,xn,xc,L⟩=>wr2)
       (fun⟨wr2,k,ii,q,xA,xn,xc,L⟩=>(Ext w wr2)∧(k≤(I+1))∧(ii=(k:Int)-1)∧(Own wr2 w.heap.size 22 1 A73 (I+1) c74 (vs++ [.slice yA yn yc]))∧(Pows wr2 w.heap.size Y n4 (I+1) (vs++ [.slice yA yn yc]))∧(L*Y^(q*2^k)=X)∧(L%Y^2^k≠0)∧(xn≤n4)∧(True)∧(Rd wr2 xA xn xc (db 4294967296 (L))))
       (fun⟨wr2,k,ii,q,xA,xn,xc,L⟩=>k)
       (⟨v75,(I+1),_,0,_,_,_,X⟩:World×Nat×Int×Nat×Option Addr×Nat×Nat×Nat) ⟨hw3,(Nat.le_refl _),(by omega),ho76,hpw1,(by rw [Nat.zero_mul,Nat.pow_zero,Nat.mul_one]),(by rw [Nat.mod_eq_of_lt htop];exact hXz),(Nat.le_refl _),trivial,(od_rd ((hox.ext e71).updOT ow72 (by decide) uo77))⟩ rfl ⟨rfl,rfl,rfl,rfl,trivial⟩ ?_
      rintro⟨wr2,k,ii,q,xA,xn,xc,L⟩ ⟨hw1,hk,hii,hop2,hpw2,hL,hLn,hn7,hLn0,rl7⟩
      refine cw_re [(7,.slice xA xn xc),(9,.slice A73 (I+1) c74),(11,.int .i64 ((q:Nat):Int)),(12,.int .i64 ii)] wr2 rfl ⟨rfl,rfl,rfl,rfl,trivial⟩ (cw_seq (cw_seq ?_))
      by_cases hk0:0<k
      · 
       obtain⟨j,rfl⟩:∃j,k=j+1:=⟨k-1,by omega⟩
       obtain rfl:ii=(j:Int):=by omega
       refine cw_region (mv 1 rfl (wl_cmp rfl rfl rfl true (cb_ge_t (a:=j) (b:=0) rfl rfl (by omega)) (by decide) (ne_ (cw_true rfl (cw_skip (eo_then (cw_seq (cw_block (cw_seq ?_)))))))))
       have hqb:=sp_bound hXz hY2 hL
       refine cw_region (mv 1 rfl (wl_ar rfl rfl rfl ((2*q:Nat):Int) (ai_mul (a:=2) (b:=q) rfl rfl (by omega)) (by decide) (mv 1 rfl (ne_ (sr (mv 3 rfl ?_))))))
       obtain⟨p80,hp80,hc80⟩:=own_cell hop2 (i:=j) (by omega)
       obtain⟨Ae80,ke80,ce80,hve80,hke80,hoe80⟩:=(hpw2).2 j (by omega)
       rw [hve80] at hc80
       refine wl_idx rfl rfl rfl un_wl sz_wl j rfl (by omega) p80 hp80 (by decide) (wl_load rfl rfl (load_cell1 ag_wl hc80) (by decide) (cl (vs:= [.slice xA xn xc,.slice Ae80 ke80 ce80]) hw1 (ref3_divide_ rl7 (by omega) (od_rd hoe80) (by omega) (Nat.pos_iff_ne_zero.1 (Nat.pow_pos (by omega)))) rfl (by kernel_rfl) fun xr83 v81 r83 e82 hw2=>?_))
       obtain⟨_,_,rfl,⟨A85,n85,c85,rfl,rd85⟩,⟨A86,n86,c86,rfl,rd86⟩⟩:=r83
       refine mv 1 rfl (pu (v:= .slice A85 n85 c85) rfl (by kernel_rfl) (pu (v:= .slice A86 n86 c86) rfl (by kernel_rfl) (mv 2 rfl (ne_ (cw_seq ?_)))))
       have hlr:=rd86.len
       by_cases hrz:n86=0
       · 
        have hdv:L%Y^2^j=0:=(len_db_zero b32).1 (by omega)
        refine cw_region (mv 1 rfl (pu (v:= .int .i64 ((n86:Nat):Int)) rfl (by kernel_rfl) (wl_cmp rfl rfl rfl true (cb_eq_t (a:=n86) (b:=0) rfl rfl (by omega)) (by decide) (ne_ (cw_true rfl (sr (mv 2 rfl (ne_ (cw_region (mv 1 rfl (wl_ar rfl rfl rfl (((2*q)+1:Nat):Int) (ai_add (a:=2*q) (b:=1) rfl rfl (by omega)) (by decide) (mv 1 rfl (wl_nil ?_)))))))))))))
        refine eo_block_normal (eo_then (cw_region (mv 1 rfl (wl_ar rfl rfl rfl (((j:Nat):Int)-1) (ar_i64s rfl (by omega) (by omega)) (by decide) (mv 1 rfl (wl_nil (eo_round (⟨v81,j,_,2*q+1,_,_,_,_⟩:World×Nat×Int×Nat×Option Addr×Nat×Nat×Nat) ⟨hw2,(by omega),rfl,(hop2.ext e82),(hpw2.ext e82),(sp_yes hL hdv),(strip_still hY2 hLn hdv),(by have h1:=len_db_mono b32 (Nat.div_le_self L (Y^2^j));have h2:=rd85.len;have h3:=rl7.len;omega),hLn0,rd85⟩ (show j<j+1 by omega) rfl ⟨rfl,rfl,rfl,rfl,trivial⟩)))))))
       · 
        have hdv:L%Y^2^j≠0:=fun e=>hrz (by rw [←hlr,e];rfl)
        refine cw_region (mv 1 rfl (pu (v:= .int .i64 ((n86:Nat):Int)) rfl (by kernel_rfl) (wl_cmp rfl rfl rfl false (cb_eq_f (a:=n86) (b:=0) rfl rfl (by omega)) (by decide) (ne_ (cw_false rfl (cw_skip (eo_block_normal (eo_then (cw_region (mv 1 rfl (wl_ar rfl rfl rfl (((j:Nat):Int)-1) (ar_i64s rfl (by omega) (by omega)) (by decide) (mv 1 rfl (wl_nil ?_)))))))))))))
        refine eo_round (⟨v81,j,_,2*q,_,_,_,L⟩:World×Nat×Int×Nat×Option Addr×Nat×Nat×Nat) ⟨hw2,(by omega),rfl,(hop2.ext e82),(hpw2.ext e82),(sp_no hL),hdv,hn7,hLn0,(rl7.ext e82)⟩ (show j<j+1 by omega) rfl ⟨rfl,rfl,rfl,rfl,trivial⟩
      · 
       obtain rfl:k=0:=by omega
       refine cw_region (mv 1 rfl (wl_cmp rfl rfl rfl false (ge_f (by omega)) (by decide) (ne_ (cw_false rfl (cw_exit (eo_thenX (eo_loopX (eo_block_here (eo_then (sr (mv 2 rfl (cl (vs:= [.slice xA xn xc]) hw1 (ref3_words_ hw1.size rl7 (by omega)) rfl (by kernel_rfl) fun xr89 v87 r89 e88 hw2=>?_))))))))))))
       obtain⟨A90,n90,c90,rfl,j90,o90⟩:=r89
       refine mv 3 rfl (ne_ (cw_ret (eo_ret [.int .i64 ((q:Nat):Int),.slice A90 n90 c90,I0] rfl ⟨rfl,rfl,rfl,trivial⟩ ?_)))
       rw [Nat.pow_zero,Nat.mul_one] at hL
       rw [Nat.pow_zero,Nat.pow_one] at hLn
       exact⟨q,L,hL,hLn,_,rfl,⟨_,_,_,rfl,rfl,⟨_,_,_,rfl,j90,o90⟩,rfl⟩,hw2⟩
     · 
      refine cw_region (mv 1 rfl (pu (v:= .int .i64 ((yn:Nat):Int)) rfl (by kernel_rfl) (wl_ar rfl rfl rfl ((2*yn:Nat):Int) (ai_mul (a:=2) (b:=yn) rfl rfl (by omega)) (by decide) (wl_ar rfl rfl rfl (((2*yn)-1:Nat):Int) (ai_sub (a:=2*yn) (b:=1) rfl rfl (by omega) (by omega)) (by decide) (mv 1 rfl (pu (v:= .int .i64 ((n4:Nat):Int)) rfl (by kernel_rfl) (wl_cmp rfl rfl rfl false (cb_gt_f (a:=(2*yn)-1) (b:=n4) rfl rfl (by omega)) (by decide) (ne_ (cw_false rfl (cw_skip (eo_then (sr (mv 1 rfl ?_)))))))))))))
      refine mv 1 rfl (cl (vs:= [.slice yA yn yc,.slice yA yn yc]) hw3 (ref3_timesO hw3.size (od_rd ((hoy.ext e71).updOT ow72 (by decide) uo77)) (by omega) (od_rd ((hoy.ext e71).updOT ow72 (by decide) uo77)) (by omega)) rfl (by kernel_rfl) fun xr93 v91 r93 e92 hw4=>?_)
      obtain⟨A94,n94,c94,rfl,od94⟩:=r93
      refine mv 1 rfl (ne_ ?_)
      have hlzz:=od_len od94
      have hmlz:=len_db_mul (x:=Z) (y:=Z)
      refine cw_region (mv 2 rfl (cl (vs:= [.slice A4 n4 c4,.slice A94 n94 c94]) hw4 (ref3_below (od_rd (((hox.ext e71).updOT ow72 (by decide) uo77).ext e92)) (by omega) (od_rd od94) (by omega)) rfl (by kernel_rfl) fun xr97 v95 r97 e96 hw5=>?_))
      obtain rfl:=r97
      refine mv 1 rfl (wl_nil (eo_block_normal (eo_round (⟨v95,I+1,_,_,_,_,_,_,_,_⟩:World×Nat×Option Addr×Nat×List Value×Option Addr×Nat×Nat×Nat×Bool) ⟨hw5,(by omega),(((hox.ext e71).updOT ow72 (by decide) uo77).ext (e92.trans e96)),(od94.ext e96),(ho76.ext (e92.trans e96)),(pw79.ext (e92.trans e96)),(by rw [hZ,←Nat.pow_add,←Nat.two_mul,Nat.pow_succ,Nat.mul_comm (2^I)]),rfl,(by omega)⟩ (show X+1-Z*Z<X+1-Z by have h:Z*2≤Z*Z:=Nat.mul_le_mul_left Z hZ2;omega) rfl ⟨rfl,rfl,rfl,rfl,trivial⟩)))
theorem law_wakes (w:World):Calls Try.prog 7 #[] w (BoolP true w):=by
 go_enter Try.func7,Try.ntmps7
 go_wp2_with fail
 have hone:=Rd.one w (x:=7) (by omega)
 refine (divnat_Word hone (by omega) (v:=2) (by omega) (by omega)).mono ?_
 rintro e w2 ⟨A2,n2,c2,r,rfl,hr,hrb,hn2,hr2,ho2,hx2⟩
 have e3:wd (nv [7]/2)= [3]:=by decide+kernel
 have e1:nv [7]%2=1:=by decide+kernel
 rw [e3] at hn2 hr2 ho2
 rw [e1] at hr
 obtain rfl:n2=1:=hn2.out
 obtain⟨a,x,rfl,hxk,hxb,hcx⟩:=hr2.get (i:=0) (by omega)
 have hx3:x=3:=by rw [←hxk.out];rfl
 have hr1:r=1:=hr.out
 subst hx3
 subst hr1
 have hcx0:w2.cell? a=some (.int .u64 3):=by simpa [Addr.add] using hcx
 clear hcx hr hrb hn2 ho2 hr2 hxk hxb
 go_wp2_with fail
 go_ret
 exact⟨rfl,((Ext.refl w).alloc _).trans hx2⟩
structure Zl (w:World) (A:Option Addr) (n cap:Nat) (zs:List Int) (ms:List Nat):Prop where
 len:zs.length=n
 mlen:ms.length=n
 le:n≤cap
 max:cap≤maxLen
 get:∀i,i<n→∃a s B c,A=some a∧w.cell? (a.add (i*2))=some (.bool s)∧w.cell? (a.add (i*2+1))=some (.slice B (ms.getD i 0) c)∧Zi w s B (ms.getD i 0) c (zs.getD i 0)
theorem Zl.ext {w w':World}{A:Option Addr}{n cap:Nat}{zs:List Int}{ms:List Nat}(h:Zl w A n cap zs ms) (e:Ext w w'):Zl w' A n cap zs ms:=
 ⟨h.len,h.mlen,h.le,h.max,fun i hi=>by
  obtain⟨a,s,B,c,h1,h2,h3,h4⟩:=h.get i hi
  exact⟨a,s,B,c,h1,e.cell h2,e.cell h3,h4.ext e⟩⟩
theorem Zl.take {w:World}{A:Option Addr}{n cap k:Nat}{zs:List Int}{ms:List Nat}(h:Zl w A n cap zs ms) (hk:k≤n):Zl w A k cap (zs.take k) (ms.take k):=
 ⟨by rw [List.length_take,h.len];omega,by rw [List.length_take,h.mlen];omega,Nat.le_trans hk h.le,h.max,fun i hi=>by
  obtain⟨a,s,B,c,h1,h2,h3,h4⟩:=h.get i (by omega)
  have e1:(ms.take k).getD i 0=ms.getD i 0:=by simp [List.getD_eq_getElem?_getD,hi]
  have e2:(zs.take k).getD i 0=zs.getD i 0:=by simp [List.getD_eq_getElem?_getD,hi]
  rw [e1,e2]
  exact⟨a,s,B,c,h1,h2,h3,h4⟩⟩
end Go.Proofs.Ytgilhcdglaneiaa
