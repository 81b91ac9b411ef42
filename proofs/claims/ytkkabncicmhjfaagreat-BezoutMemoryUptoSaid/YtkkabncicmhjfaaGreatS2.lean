/- Parts Shr, Long, LongB, DivC, Gcd, Int, Same, Sxz, Sxl, Sxw, IntB, IntC, IntD, IntE, Pop, Small, Zg, Sxb, Ab, Upto, Stays, Zs, UptoZ, UptoM, App, Ref1, Own0, Book, Sxk, Bookw, Keep0, Keep, Keepw, Zh, joined. -/
import Derived.Test.YtkkabncicmhjfaaGreatS1
import Derived.IntWalk
import Derived.KernelRfl
import Derived.Test.YtkkabncicmhjfaaGreatRows
import Derived.WalkKit
import Derived.ProofKit
import Derived.OpenShut
import Derived.JoinedCond
import Derived.ChangeSame
import Derived.ChangeSlices
import Derived.ChangeStays
import Derived.Deep.Slices
import Derived.DataShut
import Derived.ArgAppend
import Derived.WalkSmall

open Go renaming Addr → aG, BinOp → jB, Calls → aQ, Edge → fO, Ending → dM, Exit → dQ, IntKind → jP, Oper → aZ, Operand → d7, Program → cC, TypeId → aU, Value → aI, World → a7, bodyPost_ret → iT, run_underlying → qR
open Go.Addr renaming add → lJ
open BitVec renaming ofInt → pM
open Bool renaming and_eq_true → eH, false_eq_true → zV
open Go.Builtin renaming append_ → o4, lenOf → wI
open Go.Instr renaming makeSlice → o2
open Int renaming emod_nonneg → m7, natCast_mul → jR, tdiv_eq_ediv_of_nonneg → wF, toNat_natCast → jQ
open Go.IntKind renaming bits → rE, signed → rD, wrap → tC
open List renaming all_eq_true → eY, cons_append → pJ, drop_eq_getElem_cons → mZ, drop_zero → i9, getD_eq_getElem?_getD → bE, getElem?_drop → rC, getElem?_eq_getElem → cA, getElem?_eq_none → gM, getElem?_eq_some_iff → fD, getElem?_map → fY, getElem?_take → jO, length_append → fH, length_cons → gD, length_drop → mY, length_take → dK, map_cons → kH, map_nil → lH, map_take → kG, map_toArray → pI, mem_map → m6, mem_range → fN, range → dB, replicate → dL, size_toArray → vX
open Nat renaming add_mul → dV, add_zero → eI, beq → mX, div_add_mod → m5, div_eq_of_lt → gC, div_le_self → i8, div_lt_of_lt_mul → tA, eq_of_beq_eq_true → pG, eq_zero_or_pos → kF, le_of_not_lt → qX, le_refl → aS, le_trans → a6, lt_mul_div_succ → t8, lt_of_le_of_lt → lG, lt_of_lt_of_le → d4, min_eq_left → gL, mod_add_div → jN, mod_eq_of_lt → fM, mod_lt → gB, mul_add → cS, mul_add_div → o0, mul_assoc → bZ, mul_comm → cM, mul_le_mul → kE, mul_le_mul_left → fG, mul_le_mul_right → eA, mul_lt_mul_of_pos_right → pF, mul_mod_mul_right → vT, mul_one → eG, mul_pos → lF, mul_right_comm → pE, mul_zero → fX, or_lt_two_pow → nZ, pow_add → dU, pow_le_pow_right → i6, pow_pos → iO, pow_succ → dJ, sub_add_cancel → iV, succ_mul → lE, two_pow_pos → m4, zero_add → eX, zero_le → bJ
open Go.Next renaming value → jA
open Option.some renaming inj → iU, injEq → eF
open Or renaming inl → bS, inr → bW
open Go.Result renaming andThen_ok → eW
open Go.Sem renaming run_bind → dA, run_pure → gT
open Go.Proofs.Tryz renaming prog → aM
open Go.Value renaming int → gK, slice → nY
open Go.World.grownBy renaming refl → zL
open Go.World renaming setCell → qS
namespace Go.Proofs.YtkkabncicmhjfaaGreat
set_option maxHeartbeats 8000000
set_option maxRecDepth 20000
variable {A A' Aa Ab B GA L XA:Option aG}{D K N U0 V a ac b b' base bytes c c' ca cap cap' cb fuel g g' gp hi i id j k lb m n n' na off q r0 x3 x4 x5 x6:Nat}{H:Type}{P:cC}{T T' e t t' t'' ty:aU}{W W' w w':a7}{acc:Fr}{af:Array fO}{args l' tmps:Array aI}{cs news us vs:List aI}{ds l l1 l2 ms ql xs ys:List Nat}{dst:Option Tmp}{er x y:Int}{f:FuncId}{fn:Func}{gd:Option (Nat×Bool)}{hi' lo':Option d7}{high low:Option aI}{o:jB}{ol rest:List aZ}{op:Op}{ops:Array aZ}{p pa pv:List MemPlace}{pos:String}{r u:aI}{s s' sa sb:Bool}{ts:Array aU}{zs:List Int}
section
open Go.RowKit
theorem AG (h:n≤9223372036854775807):IntKind.i64.wrap (n:Int)=(n:Int):=by
 simp only [tC,rE,rD]
 simp
 omega
theorem OB {x y:Nat}(hy:y≠0)(hx:x≤9223372036854775807)(P:cC)(t:aU)(w:a7):(binOp .quo t (v4 (x:Int)) (v4 (y:Int))).run P w= .ok (v4 ((x/y:Nat):Int)) w:=by
 have f:=i8 x y
 have e:IntKind.i64.wrap ((x:Int).tdiv (y:Int))=((x/y:Nat):Int):=by
  have:(x:Int).tdiv (y:Int)=((x/y:Nat):Int):=by rw [wF (by omega)];simp
  rw [this,AG (by omega)]
 simp only [binOp,Op.intDiv]
 simp [hy]
 rw [show (↑x/ ↑y:Int)=((x/y:Nat):Int) from by simp] at*
 simpa [wF] using e
theorem OA {x y:Nat}(hy:y≠0)(hx:x≤9223372036854775807)(P:cC)(t:aU)(w:a7):(binOp .rem t (v4 (x:Int)) (v4 (y:Int))).run P w= .ok (v4 ((x%y:Nat):Int)) w:=by
 have f:=Nat.mod_le x y
 have e:IntKind.i64.wrap ((x:Int).tmod (y:Int))=((x%y:Nat):Int):=by
  have:(x:Int).tmod (y:Int)=((x%y:Nat):Int):=by rw [Int.tmod_eq_emod_of_nonneg (by omega)];simp
  rw [this,AG (by omega)]
 simp only [binOp,Op.intDiv]
 simp [hy]
 rw [show (↑x% ↑y:Int)=((x%y:Nat):Int) from by simp] at*
 simp [Int.tmod_eq_emod_of_nonneg]
theorem AJ {o:aZ}{a:Act}{Q:dQ→Act→a7→Prop}(hgd:o.guard=none){op:jB}{x y:d7}(ho:o.op= .binOp op t x y ty){vx vy:aI}{f:Nat}(hx:a.eval x=vx)(hy:a.eval y=vy)(hne:y5 op=false)(hr:∀(P:cC) (t:aU) (w:a7),(binOp op t vx vy).run P w= .ok (v4 (f:Int)) w)(h:∀r:Nat,Hid (r=f)→wpList P ops Q rest (a.put o.dst (v4 (r:Int))) w):wpList P ops Q (o::rest) a w:=
 AK hgd ho hx hy hne (fun w=>hr P t w) (h f G)
theorem SR {x y:Nat}(hx:x≤18446744073709551615)(hy:y≤18446744073709551615):bits BinOp.or IntKind.u64 (x:Int) (y:Int)=((x||| y:Nat):Int):=by
 have e:IntKind.u64.wrap ((pM 64 (x:Int)||| pM 64 (y:Int)).toNat:Int)=((x||| y:Nat):Int):=by
  rw [BitVec.toNat_or,pZ hx,pZ hy,lK,fM (nZ (n:=64) (by omega) (by omega))]
 exact e
theorem J2 (x k:Nat):IntKind.u64.wrap ((x:Int)*2^k)=((x*2^k%18446744073709551616:Nat):Int):=by
 rw [←lK];simp
theorem KT {x y s:Nat}(hs:s<64):x/2^s||| (y*2^(64-s)%18446744073709551616)=x/2^s+(y%2^s)*2^(64-s)∨18446744073709551616≤x:=by
 by_cases hx:x<18446744073709551616
 ·left
  have e:18446744073709551616=2^s*2^(64-s):=by rw [←dU,show s+(64-s)=64 from by omega]
  have f:y*2^(64-s)%18446744073709551616=(y%2^s)*2^(64-s):=by rw [e,vT]
  have h:x/2^s<2^(64-s):=tA (by rw [←e];exact hx)
  rw [f,Nat.or_comm,xM h,Nat.add_comm]
 ·right;omega
theorem BS {x y z s:Nat}(hi:i<l.length)(hix:i<xs.length)(hx:xs.getD i 0=x)(_hy:xs.getD (i+1) 0=y)(hz:z=x/2^s+(y%2^s)*2^(64-s))(hs:s<64)(h:nv (l.take i)*2^s+r0=nv (xs.take i)+WB^i*(x%2^s)):nv ((l.set i z).take (i+1))*2^s+r0=nv (xs.take (i+1))+WB^(i+1)*(y%2^s):=by
 rw [xP hi,eE xs i hix,hx,dV]
 have o:z*2^s=x/2^s*2^s+WB*(y%2^s):=by
  rw [hz,dV,bZ,←dU,iV (by omega),←kD,cM WB]
 have f:x/2^s*2^s+x%2^s=x:=by rw [cM];exact m5 _ _
 have p:WB^i*x=WB^i*(x/2^s*2^s)+WB^i*(x%2^s):=by rw [←cS,f]
 rw [bZ (WB^i) z,o,p,dJ,bZ (WB^i) WB,cS]
 omega
theorem MO (hx:Rd w A m cap xs)(hl:m≤1099511627775)(hn:n≤9223372036854775807):aQ aM 111 #[AT A m cap,v4 (n:Int)] w (sR w (nv xs/2^n) 0):=by
 go_enter Tryz.func111,Tryz.ntmps111
 go_wp2_with fail
 refine (jG hx).mono ?_
 rintro e w' ⟨k,hk,hkn,rfl,rfl⟩
 go_upto_region 4 with (first
  | ((with_reducible refine dE (some 16) ?_);refine AJ rfl rfl rfl rfl rfl (OB (x:=n) (y:=64) (by omega) hn) ?_;intro q hq)
  | ((with_reducible refine dE (some 18) ?_);refine AJ rfl rfl rfl rfl rfl (OA (x:=n) (y:=64) (by omega) hn) ?_;intro s hs;have hs64:s<64:=(by rw [hs.out];exact gB _ (by omega));have hqb:q≤9223372036854775807:=(by have:=hq.out;omega)))
 have hnqs:Hid (n=64*q+s):=(show _=_ by rw [hq.out,hs.out];exact (m5 _ _).symm)
 clear hq hs
 have hlx:=Lib.hid hx.len
 by_cases hkq:k≤q
 ·go_wp2_with fail
  go_ret2
  refine zG (TP ?_ (Ext.refl w))
  refine gC ?_
  rw [hnqs.out,dU,Nat.pow_mul,←kD]
  have h1:=nK (nv xs)
  rw [←hk.out] at h1
  have h2:WB^k≤WB^q:=i6 fF hkq
  have h3:=Nat.le_mul_of_pos_right (WB^q) (m4 s)
  omega
 ·obtain⟨p,hkp⟩:∃p,k=q+p:=⟨k-q,by omega⟩
  have hp:0<p:=by omega
  obtain⟨ys,hys⟩:∃ys,(xs.take k).drop q=ys:=⟨_,rfl⟩
  have hyl:Hid (ys.length=p):=(show _=_ by rw [←hys,mY,dK,hlx.out];omega)
  have hyv:Hid (nv xs/2^n=nv ys/2^s):=by
   show _=_
   rw [hnqs.out,dU,Nat.pow_mul,←kD,←Nat.div_div_eq_div_mul]
   congr 1
   have h1:=nF hx.wf hk.out
   have h2:=lN (xs.take k) q (by rw [dK,hlx.out];omega)
   have h3:=jF (oZ hx.wf k) q
   rw [←h1,h2,hys,Nat.add_comm,o0 (iO fF),gC h3,eI]
  have hyg:Hid (∀i,i<p→ys.getD i 0=xs.getD (q+i) 0):=by
   intro i hi
   rw [←hys]
   simp only [bE,rC,jO]
   rw [if_pos (by omega)]
  clear hys hk
  have hmk:=jV (P:=aM) Tryz.underlying22 iG G (by decide) ((k:Int)-(q:Int)) (by omega) (by omega)
  have et:((k:Int)-(q:Int)).toNat=p:=by omega
  rw [et] at hmk
  clear et
  have hxn:=Lib.hid hnqs.out
  clear hnqs
  have hnk:¬(k:Int)≤(q:Int):=by omega
  have hnk0:¬(k:Int)-(q:Int)<0:=by omega
  have HL:=Lib.hid hl
  clear hqb hn
  have hkp1:k≤q+p:=by omega
  have hkp2:q+p≤k:=by omega
  clear hkp
  go_wp2_with fail
  clear hmk
  obtain⟨g,hg⟩:∃g,w.heap.size=g:=⟨_,rfl⟩
  rw [hg]
  obtain⟨wa,hwa⟩:∃wa,w.alloc (.cells (zc (.int .u64 0) p) 36)=wa:=⟨_,rfl⟩
  rw [hwa]
  have hbk:Bk wa g 36 ((dL p 0).map aY):=by
   rw [←hwa,←hg,←jC];exact Bk.new' _ _ _
  have hea:Ext w wa:=by rw [←hwa];exact (Ext.refl w).alloc _
  have hgs:w.heap.size≤g:=by rw [hg];exact aS _
  clear hg hwa
  have hsb:(s:Int)≤63:=by omega
  have hs64':s≤64:=by omega
  go_loopw [29] (fun u wr=>∃(i:Nat) (l:List Nat),i≤p∧u= v4 (i:Int)∧Hid (l.length=p)∧Wf l∧Bk wr g 36 (l.map aY)∧
   Hid (nv (l.take i)*2^s+ys.getD 0 0%2^s=nv (ys.take i)+WB^i*(ys.getD i 0%2^s))∧Ext w wr) (fun u wr=>p-(intOf u).toNat)
  case atStart=>exact⟨0,_,bJ _,rfl,List.length_replicate,mU _,hbk,by simp [Hid,nv],hea⟩
  case round=>
   obtain⟨i,l,hi,rfl,hll,hwl,hb,hv,hr⟩:=hrel
   clear hbk hea
   by_cases hip:i<p
   ·obtain⟨a,x,rfl,hxk,hxb,hcx⟩:=(hx.ext hr).get (i:=q+i) (by omega)
    obtain⟨o,ho,_,hco⟩:=hb.word hwl (i:=i) (by rw [hll.out];omega)
    have hfr:=hb.frozen i
    have hxy:Hid (ys.getD i 0=x):=(show _=_ by rw [hyg.out i hip];exact hxk.out)
    by_cases hi1:i+1<p
    ·obtain⟨a',y,ha',hyk,hyb,hcy⟩:=(hx.ext hr).get (i:=q+i+1) (by omega)
     cases ha'
     have hyy:Hid (ys.getD (i+1) 0=y):=(show _=_ by rw [hyg.out (i+1) hi1];exact hyk.out)
     go_upto_region 12 with ((with_reducible refine dE (some 41) ?_);refine dS G G G G G (mE hs64') ?_ (hf:=(by have:=i8 x (2^s);omega));intro z hz hzb)
     obtain⟨w2,hw2⟩:∃w2,wr.setCell ⟨g,i,none⟩ (.int .u64 (z:Int))=w2:=⟨_,rfl⟩
     rw [hw2]
     have hb2:Bk w2 g 36 ((l.set i z).map aY):=by rw [←hw2,←dO];exact hb.set i _
     have hr2:Ext w w2:=by rw [←hw2];exact hr.setCell hgs _
     have hwl2:Wf (l.set i z):=fW hwl i (by rw [cI];omega)
     have hll2:Hid ((l.set i z).length=p):=(show _=_ by rw [List.length_set];exact hll.out)
     have hz2:Hid ((l.set i z).getD i 0=z):=(show _=_ by have:=hll.out;simp [bE,this,hip])
     clear hw2
     obtain⟨z2,hzk2,hzb2,hcz2⟩:=hb2.word hwl2 (i:=i) (by rw [hll2.out];omega)
     obtain rfl:z2=z:=by rw [←hzk2.out,hz2.out]
     have hfr2:=hb2.frozen i
     obtain⟨a2,y2,ha2,hyk2,_,hcy2⟩:=(hx.ext hr2).get (i:=q+i+1) (by omega)
     cases ha2
     obtain rfl:y2=y:=by rw [←hyk2.out,hyk.out]
     clear hcy hco hb hr hfr hcx hzk2 hyk2
     have hcy4:w2.cell? (⟨a.block,a.off+(q+i+1),none⟩:aG)=some (AI (y2:Int)):=by simpa [lJ] using hcy2
     clear hcy2
     have hmb:y2*2^(64-s)%18446744073709551616≤18446744073709551615:=by omega
     obtain⟨r,hrd⟩:∃r,z2||| (y2*2^(64-s)%18446744073709551616)=r:=⟨_,rfl⟩
     have hrb:r≤18446744073709551615:=by
      have:=nZ (n:=64) (x:=z2) (y:=y2*2^(64-s)%18446744073709551616) (by omega) (by omega)
      omega
     have hbits:Hid (bits BinOp.or IntKind.u64 (z2:Int) (IntKind.u64.wrap ((y2:Int)*2^(64-s)))=(r:Int)):=by
      show _=_
      rw [J2,SR hzb hmb,hrd]
     have hsum:Hid (r=x/2^s+(y2%2^s)*2^(64-s)):=by
      show _=_
      rw [←hrd,hz.out]
      rcases KT (x:=x) (y:=y2) hs64 with h | h
      ·exact h
      ·omega
     clear hrd hmb
     go_region
     rw [hbits.out]
     go_wp2_with fail
     go_roundw
     case rel=>
      refine⟨i+1,(l.set i z2).set i r,by omega,by go_num,(show _=_ by rw [List.length_set,hll2.out]),fW hwl2 i (by rw [cI];omega),by rw [←dO];exact (hb2.set i _).drew,?_,(hr2.setCell hgs _).drew⟩
      show _=_
      rw [List.set_set,hyy.out]
      exact BS (by rw [hll.out];omega) (by rw [hyl.out];omega) hxy.out hyy.out hsum.out hs64 (by rw [←hxy.out];exact hv.out)
     case measure=>simp [intOf];omega
    ·have hi2:¬(q:Int)+(i:Int)+1<(k:Int):=by omega
     have hyz:Hid (ys.getD (i+1) 0=0):=by
      show _=_
      rw [bE,gM (by rw [hyl.out];omega)];rfl
     go_wp2_with ((with_reducible refine dE (some 41) ?_);refine dS G G G G G (mE hs64') ?_ (hf:=(by have:=i8 x (2^s);omega));intro z hz hzb)
     go_roundw
     case rel=>
      refine⟨i+1,l.set i z,by omega,by go_num,(show _=_ by rw [List.length_set,hll.out]),fW hwl i (by rw [cI];omega),by rw [←dO];exact hb.set i _,?_,hr.setCell hgs _⟩
      have:=BS (l:=l) (y:=0) (z:=z) (by rw [hll.out];omega) (by rw [hyl.out];omega) hxy.out hyz.out (by rw [hz.out];simp) hs64 (by rw [←hxy.out];exact hv.out)
      show _=_
      rw [hyz.out]
      exact this
     case measure=>simp [intOf];omega
   ·obtain rfl:i=p:=by omega
    have hval:Hid (nv l=nv xs/2^n):=by
     show _=_
     have h:=hv.out
     rw [List.take_of_length_le (by rw [hll.out];exact aS _),List.take_of_length_le (by rw [hyl.out];exact aS _)] at h
     have h0:ys.getD i 0=0:=by rw [bE,gM (by rw [hyl.out];exact aS _)];rfl
     rw [h0,Nat.zero_mod,fX,eI] at h
     have h1:=gB (ys.getD 0 0) (m4 s)
     rw [hyv.out,←h,cM,o0 (m4 s),gC h1,eI]
    have hr2:Rd wr (some ⟨g,0,none⟩) i i l:=by
     have:=hb.rd hwl (o:=0) (n:=i) (cap:=i) (aS _) (by rw [hll.out];omega) (by rw [eB];omega)
     rwa [i9,List.take_of_length_le (by rw [hll.out];omega)] at this
    have hpm:i≤m:=by omega
    clear hkp1 hkp2
    go_wp2_with fail
    refine (jG hr2).mono ?_
    rintro e w' ⟨t,ht,htn,rfl,rfl⟩
    go_wp2_with fail
    go_ret2
    rw [←hval.out]
    exact zG (pA (ys:=l) hgs hb hll.out htn (by rw [eB];omega) (mD hwl ht.out).symm hr)
def TQ (w:a7)(q r:Nat)(e:dM)(w':a7):Prop:=
 ∃A n cap B m cap',e= .returned (.tuple #[AT A n cap,AT B m cap'])∧Hid (n=(wd q).length)∧Rd w' A n cap (wd q)∧Own w' w.heap.size 36 1 A n cap ((wd q).map aY)∧
  Hid (m=(wd r).length)∧Rd w' B m cap' (wd r)∧Own w' w.heap.size 36 1 B m cap' ((wd r).map aY)∧Ext w w'∧∀p p',A=some p→B=some p'→p.block≠p'.block
theorem OK {U M Uh Vh d:Nat}(hM:0<M)(hUh:Uh=U/M)(hVh:Vh=V/M)(hbig:WB≤Vh)(hd:d<WB)(h1:d*Vh≤Uh)(h2:d=18446744073709551615∨Uh<(d+1)*Vh)(hU:U<V*WB):U/V≤d∧d≤U/V+1:=by
 have H:0<V:=by
  rcases kF V with h | h
  ·rw [h,Nat.zero_mul] at hU;omega
  ·exact h
 constructor
 ·rcases h2 with h | h
  ·have:U/V<WB:=tA hU
   rw [cI] at this
   omega
  ·have D:U/V*Vh≤Uh:=by
    rw [hUh,Nat.le_div_iff_mul_le hM]
    have f:Vh*M≤V:=by rw [hVh];exact Nat.div_mul_le_self _ _
    have p:=fG (U/V) f
    have E:=Nat.div_mul_le_self U V
    rw [←bZ] at p
    omega
   have q:U/V*Vh<(d+1)*Vh:=by omega
   have:=Nat.lt_of_mul_lt_mul_right q
   omega
 ·refine qX (fun o=>?_)
  have D:d*Vh*M≤U:=by
   have:=eA M h1
   have f:Uh*M≤U:=by rw [hUh];exact Nat.div_mul_le_self _ _
   omega
  have f:V<(Vh+1)*M:=by rw [hVh,cM];exact t8 V hM
  have p:U<(U/V+1)*V:=by rw [cM];exact t8 U H
  have E:(U/V+1)*V≤(d-1)*V:=eA V (by omega)
  have q:(d-1)*V≤(d-1)*((Vh+1)*M):=fG _ (Nat.le_of_lt f)
  have F:d*Vh*M<(d-1)*(Vh+1)*M:=by
   rw [bZ (d-1)]
   exact lG D (d4 p (a6 E q))
  have L:=Nat.lt_of_mul_lt_mul_right F
  have I:0<d:=lG (bJ _) o
  clear o D f p E q F
  obtain⟨d,rfl⟩:∃e,d=e+1:=⟨d-1,by omega⟩
  rw [Nat.add_sub_cancel,lE,cS,eG] at L
  omega
theorem NI {L L1 d:Nat}(hD:0<D)(hd1:L/D≤d)(hd2:d≤L/D+1)(_hK:L<K)(hL1:L1<K)(h:L1+d*D=L+K*c)(hc:c≤1):(c=0→d=L/D∧L1=L%D)∧(c=1→d=L/D+1∧∀L2 c2,c2≤1→L2<K→L2+K*c2=L1+D→L2=L%D):=by
 have H:=m5 L D
 have F:=gB L hD
 generalize L/D=q at*
 generalize L%D=r at*
 have f:d=q∨d=q+1:=by omega
 have E:d*D=D*q∨d*D=D*q+D∧d=q+1:=by
  rcases f with rfl | rfl
  ·left;exact cM _ _
  ·right;exact⟨by rw [lE,cM],rfl⟩
 have p:d*D=D*q+D∨d*D=D*q∧d=q:=by
  rcases f with rfl | rfl
  ·right;exact⟨cM _ _,rfl⟩
  ·left;rw [lE,cM]
 generalize d*D=a at*
 generalize D*q=b at*
 constructor
 ·rintro rfl
  rw [fX,eI] at h
  rcases p with p | ⟨p,o⟩
  ·omega
  ·exact⟨o,by omega⟩
 ·rintro rfl
  rw [eG] at h
  rcases E with E | ⟨E,o⟩
  ·omega
  ·refine⟨o,fun L2 c2 _ _ _=>?_⟩
   rcases (show c2=0∨c2=1 by omega) with rfl | rfl <;> omega
structure Lg (V U0 k:Nat)(l ql:List Nat):Prop where
 eq:U0=WB^k*nv (ql.drop k)*V+nv l
 lt:nv l<V*WB^k
theorem Lg.step (h:Lg V U0 (j+1) l ql)(hj:j<ql.length)(hV:0<V)(hq:q=nv l/(WB^j*V))(hl2:nv l2=nv l%(WB^j*V)):Lg V U0 j l2 (ql.set j q):=by
 have o:0<WB^j*V:=lF (iO fF) hV
 have p:(ql.set j q).drop j=q::ql.drop (j+1):=by
  rw [mZ (by rw [List.length_set];exact hj)]
  congr 1
  ·simp
  ·rw [List.drop_set_of_lt (by omega)]
 refine⟨?_,?_⟩
 ·have f:=m5 (nv l) (WB^j*V)
  rw [←hq,←hl2] at f
  rw [h.eq,p,nH,cS,dV,dJ,bZ (WB^j) WB,←f]
  have D:WB^j*q*V=WB^j*V*q:=pE _ _ _
  omega
 ·rw [hl2,cM V];exact gB _ o
theorem JV (hn:2≤n)(hl:j+n+1≤l.length)(hw:Wf l)(hlt:nv l<WB^(j+n+1)):nv l/WB^(j+n-2)=(l.getD (j+n) 0*WB+l.getD (j+n-1) 0)*WB+l.getD (j+n-2) 0:=by
 obtain⟨m,rfl⟩:∃m,n=m+2:=⟨n-2,by omega⟩
 have p:=lN l (j+(m+2)+1) hl
 have f:nv l=nv (l.take (j+(m+2)+1)):=by
  rcases kF (nv (l.drop (j+(m+2)+1))) with h | h
  ·rw [h,fX,eI] at p;exact p
  ·have:=Nat.le_mul_of_pos_right (WB^(j+(m+2)+1)) h
   omega
 have D:=eE l (j+(m+2)) (by omega)
 have o:=eE l (j+m+1) (by omega)
 have E:=eE l (j+m) (by omega)
 rw [show j+m+1+1=j+(m+2) from by omega] at o
 rw [show j+(m+2)-2=j+m from by omega,show j+(m+2)-1=j+m+1 from by omega,f,D,o,E]
 have H:=jF hw (j+m)
 rw [show WB^(j+(m+2))=WB^(j+m)*(WB*WB) from by rw [show j+(m+2)=j+m+1+1 from by omega,dJ,dJ,bZ],show WB^(j+m+1)=WB^(j+m)*WB from dJ _ _]
 generalize l.getD (j+(m+2)) 0=u2
 generalize l.getD (j+m+1) 0=u1
 generalize l.getD (j+m) 0=u0
 have q:nv (l.take (j+m))+WB^(j+m)*u0+WB^(j+m)*WB*u1+WB^(j+m)*(WB*WB)*u2=WB^(j+m)*((u2*WB+u1)*WB+u0)+nv (l.take (j+m)):=by
  have F:WB^(j+m)*WB*u1=WB^(j+m)*(u1*WB):=by rw [bZ,cM WB u1]
  have I:WB^(j+m)*(WB*WB)*u2=WB^(j+m)*(u2*WB*WB):=by rw [bZ,cM (WB*WB),←bZ u2]
  rw [F,I,dV,cS,cS]
  omega
 rw [q,o0 (iO fF),gC H,eI]
theorem JU (hn:2≤n)(hl:l.length=n)(hw:Wf l):nv l/WB^(n-2)=l.getD (n-1) 0*WB+l.getD (n-2) 0:=by
 obtain⟨m,rfl⟩:∃m,n=m+2:=⟨n-2,by omega⟩
 have q:nv l=nv (l.take (m+1+1)):=by rw [List.take_of_length_le (by omega)]
 have o:=eE l (m+1) (by omega)
 have f:=eE l m (by omega)
 have p:=jF hw m
 rw [show m+2-2=m from rfl,show m+2-1=m+1 from rfl,q,o,f,dJ]
 generalize l.getD (m+1) 0=u1
 generalize l.getD m 0=u0
 have h:nv (l.take m)+WB^m*u0+WB^m*WB*u1=WB^m*(u1*WB+u0)+nv (l.take m):=by
  rw [bZ,cM WB u1,cS];omega
 rw [h,o0 (iO fF),gC p,eI]
theorem NG {d:Nat}{vs:List Nat}(h:Lg V U0 (j+1) l ql)(hn:2≤n)(hl:j+n+1≤l.length)(hw:Wf l)(hvl:vs.length=n)(hvw:Wf vs)(hV:nv vs=V)(hv1:0<vs.getD (n-1) 0):nv l<WB^(j+n+1)∧l.getD (j+n) 0≤vs.getD (n-1) 0∧(d≤18446744073709551615→d*(vs.getD (n-1) 0*WB+vs.getD (n-2) 0)≤(l.getD (j+n) 0*WB+l.getD (j+n-1) 0)*WB+l.getD (j+n-2) 0→
   (d=18446744073709551615∨(l.getD (j+n) 0*WB+l.getD (j+n-1) 0)*WB+l.getD (j+n-2) 0<(d+1)*(vs.getD (n-1) 0*WB+vs.getD (n-2) 0))→nv l/(WB^j*V)≤d∧d≤nv l/(WB^j*V)+1):=by
 have q:V<WB^n:=by rw [←hV,←hvl];exact gW hvw
 have p:nv l<WB^(j+n+1):=by
  have o:=h.lt
  have f:V*WB^(j+1)≤WB^n*WB^(j+1):=eA _ (Nat.le_of_lt q)
  rw [←dU,show n+(j+1)=j+n+1 from by omega] at f
  omega
 have t3:=JV hn hl hw p
 have t2:=JU hn hvl hvw
 rw [hV] at t2
 refine⟨p,?_,?_⟩
 ·have o:WB^(j+n)*l.getD (j+n) 0≤nv l:=by
   have L:=lN l (j+n+1) hl
   have E:=eE l (j+n) (by omega)
   omega
  have f:V<WB^(n-1)*(vs.getD (n-1) 0+1):=by
   have E:=eE vs (n-1) (by omega)
   rw [iV (by omega),List.take_of_length_le (by omega),hV] at E
   have I:=jF hvw (n-1)
   rw [E,cS,eG]
   omega
  have F:V*WB^(j+1)<WB^(n-1)*(vs.getD (n-1) 0+1)*WB^(j+1):=pF f (iO fF)
  rw [pE,←dU,show n-1+(j+1)=j+n from by omega] at F
  have U:=h.lt
  have H:WB^(j+n)*l.getD (j+n) 0<WB^(j+n)*(vs.getD (n-1) 0+1):=by omega
  have:=Nat.lt_of_mul_lt_mul_left H
  omega
 ·intro _ o f
  rw [←t3] at o f
  rw [←t2] at o f
  have D:V/WB^(n-2)=(WB^j*V)/WB^(j+n-2):=by
   rw [show j+n-2=j+(n-2) from by omega,dU,Nat.mul_div_mul_left _ _ (iO fF)]
  refine OK (M:=WB^(j+n-2)) (iO fF) G D ?_ (by rw [cI];omega) o f ?_
  ·rw [t2]
   have:=Nat.le_mul_of_pos_left WB hv1
   omega
  ·have:=h.lt
   rw [dJ,←bZ,cM V] at this
   exact this
theorem NH {X Y s Q L:Nat}(hY:0<Y)(h:X*2^s=Q*(Y*2^s)+L)(hL:L<Y*2^s):Q=X/Y∧L/2^s=X%Y:=by
 have f:=m4 s
 have o:X*2^s/(Y*2^s)=Q:=by rw [h,cM Q,o0 (lF hY f),gC hL,eI]
 have p:X*2^s%(Y*2^s)=L:=by rw [h,cM Q,Nat.mul_add_mod,fM hL]
 rw [Nat.mul_div_mul_right _ _ f] at o
 rw [vT] at p
 exact⟨o.symm,by rw [←p,Nat.mul_div_cancel _ f]⟩
theorem NF {s y:Nat}(hx:Wf xs)(hy:Wf ys)(hxl:xs.length=N)(hyl:ys.length=n)(hn:1≤n)(hnN:n≤N)(hyk:ys.getD (n-1) 0=y)(hy0:y≠0)(hyb:y≤18446744073709551615)(hs:s+dP y=64):s<64∧nv ys*2^s<WB^n∧nv xs*2^s<WB^(N+1)∧0<nv ys*2^s∧WB^(n-1)≤nv ys*2^s∧nv xs*2^s<nv ys*2^s*WB^(N+1-n):=by
 have hb:dP y≠0:=fun h=>hy0 (sM.1 h)
 have f:=m4 s
 have D:=eE ys (n-1) (by omega)
 rw [iV hn,List.take_of_length_le (by omega),hyk] at D
 have L:=jF hy (n-1)
 have E:WB^(n-1)≤nv ys:=by
  have:=Nat.le_mul_of_pos_right (WB^(n-1)) (show 0<y by omega)
  omega
 have M:nv ys≤nv ys*2^s:=Nat.le_mul_of_pos_right _ f
 have F:=rV y
 have q:=gW hx
 rw [hxl] at q
 have I:=iO (n:=n-1) fF
 refine⟨by omega,?_,?_,by omega,by omega,?_⟩
 ·have o:nv ys<WB^(n-1)*(y+1):=by rw [cS,eG];omega
  have H:WB^(n-1)*(y+1)≤WB^(n-1)*2^dP y:=fG _ F
  have p:nv ys*2^s<WB^(n-1)*2^dP y*2^s:=pF (by omega) f
  rw [bZ,←dU,Nat.add_comm (dP y),hs,←kD,←dJ,Nat.succ_eq_add_one,iV hn] at p
  exact p
 ·rw [dJ]
  have o:2^s≤WB:=by rw [kD];exact i6 (by omega) (by omega)
  have H:=pF q f
  have p:=fG (WB^N) o
  omega
 ·have o:WB^N≤nv ys*WB^(N+1-n):=by
   have:=eA (WB^(N+1-n)) E
   rw [←dU,show n-1+(N+1-n)=N from by omega] at this
   exact this
  rw [pE]
  exact pF (by omega) f
theorem OI {u2 u1 u0 v1 v0:Nat}(h2:u2≤v1)(h1:u1≤18446744073709551615)(h0:u0≤18446744073709551615)(hv1:v1≤18446744073709551615)(hv0:v0≤18446744073709551615)(hpos:0<v1)(k1:D≤18446744073709551615)(k2:D*(v1*WB+v0)≤(u2*WB+u1)*WB+u0)(k3:D=18446744073709551615∨(u2*WB+u1)*WB+u0<(D+1)*(v1*WB+v0))(w:a7)(n:Nat):aQ aM 108 #[AI (u2:Int),AI (u1:Int),AI (u0:Int),AI (v1:Int),AI (v0:Int)] (w.drewN n) (fun e w''=>e= .returned (AI (D:Int))∧∃m,w''=w.drewN m):=by
 refine Calls.quiet_of ((RG h2 h1 h0 hv1 hv0 hpos (w.drewN n)).mono ?_)
 rintro e w' ⟨d,rfl,a,b,c,m,rfl⟩
 rw [OJ a b.out c.out k1 k2 k3]
 exact⟨rfl,m,rfl⟩
theorem DW (hl:K≤l.length)(hl1:K≤l1.length)(hw:Wf l1)(hd:l1.drop K=l.drop K)(h:nv l<WB^K):nv l1<WB^K:=by
 have q:=lN l K hl
 have o:=lN l1 K hl1
 have p:=jF hw K
 rw [hd] at o
 rcases kF (nv (l.drop K)) with f | f
 ·rw [f,fX] at o;omega
 ·have:=Nat.le_mul_of_pos_right (WB^K) f
  omega
theorem RF (hx:Rd w A N cap xs)(hN:N≤274877906944)(hy:Rd w B n cap' ys)(hn:2≤n)(hnN:n≤N)(htop:ys.getD (n-1) 0≠0):aQ aM 88 #[AT A N cap,AT B n cap'] w (TQ w (nv xs/nv ys) (nv xs%nv ys)):=by
 obtain⟨b,y,rfl,hyk,hyb,hcy⟩:=hy.get (i:=n-1) (by omega)
 have hlx:=Lib.hid hx.len
 have hly:=Lib.hid hy.len
 have hyp:(0:Int)<(n:Int):=by omega
 go_enter Tryz.func88,Tryz.ntmps88
 go_wp2_with fail
 refine (bits_LeadingZeros64 y hyb _).mono ?_
 rintro e w' ⟨s,hs,hs64',rfl,rfl⟩
 have hstart:=NF hx.wf hy.wf hlx.out hly.out (by omega) hnN hyk.out (by rw [←hyk.out];exact htop) hyb hs.out
 obtain⟨hs64,hVfit,hUfit,hVpos,hVlow,hUV⟩:=hstart
 have HVfit:=Lib.hid hVfit
 have HUfit:=Lib.hid hUfit
 have HVpos:=Lib.hid hVpos
 have HVlow:=Lib.hid hVlow
 have HUV:=Lib.hid hUV
 clear hVfit hUfit hVpos hVlow hUV htop
 go_wp2_with fail
 refine (FX hy (by omega) hs64 (by omega) (aS _) HVfit.out).mono ?_
 rintro e w1 ⟨gv,vs,rfl,hgv,hbv,hwv,hlv,hvv,hx1⟩
 go_wp2_with fail
 refine (FX (n:=N+1) (hx.ext hx1) (by omega) hs64 (by omega) (by omega) HUfit.out).mono ?_
 rintro e w2 ⟨gu,us,rfl,hgu,hbu,hwu,hlu,hvu,hx2⟩
 obtain⟨M,hM1,hM2⟩:∃M,M+n≤N+1∧N+1≤M+n:=⟨N+1-n,by omega,by omega⟩
 have hmk:=jV (P:=aM) Tryz.underlying22 iG G (by decide) ((N:Int)-(n:Int)+1) (by omega) (by omega)
 have et:((N:Int)-(n:Int)+1).toNat=M:=by omega
 rw [et] at hmk
 clear et
 go_wp2_with fail
 clear hmk
 have hbv2:=hbv.ext hx2
 have hguv:gv<gu:=d4 hbv.lt hgu
 obtain⟨gq,hgq⟩:∃gq,w2.heap.size=gq:=⟨_,rfl⟩
 rw [hgq]
 have hguq:gu<gq:=by rw [←hgq];exact hbu.lt
 obtain⟨wa,hwa⟩:∃wa,w2.alloc (.cells (zc (.int .u64 0) M) 36)=wa:=⟨_,rfl⟩
 rw [hwa]
 have hbq:Bk wa gq 36 ((dL M 0).map aY):=by
  rw [←hwa,←hgq,←jC];exact Bk.new' _ _ _
 have hea:Ext w2 wa:=by rw [←hwa];exact (Ext.refl w2).alloc _
 have hgw:w.heap.size≤gv:=hgv
 have hgw2:w.heap.size≤gu:=by omega
 have hgw3:w.heap.size≤gq:=by omega
 have hbva:=hbv2.ext hea
 have hbua:=hbu.ext hea
 have hexa:Ext w wa:=(hx1.trans hx2).trans hea
 clear hgq hwa hbv hbu hbv2 hea hcy
 have hL0:Hid (Lg (nv ys*2^s) (nv xs*2^s) M us (dL M 0)):=by
  refine⟨?_,?_⟩
  ·rw [List.drop_of_length_le (by rw [List.length_replicate];exact aS _),hvu.out];simp [nv]
  ·rw [hvu.out,show M=N+1-n from by omega];exact HUV.out
 have hv1:Hid (0<vs.getD (n-1) 0):=by
  refine Nat.pos_of_ne_zero (fun h0=>?_)
  have e1:=oH vs (n-1) (by rw [hlv.out];omega) h0
  rw [iV (by omega),List.take_of_length_le (by rw [hlv.out];exact aS _),hvv.out] at e1
  have e2:=jF hwv (n-1)
  have:=HVlow.out
  omega
 go_loopw [11] (fun u wr=>∃(k:Nat) (l ql:List Nat),k≤M∧u= v4 ((k:Int)-1)∧Hid (l.length=N+1)∧Wf l∧Hid (ql.length=M)∧Wf ql∧Bk wr gv 36 (vs.map aY)∧Bk wr gu 36 (l.map aY)∧Bk wr gq 36 (ql.map aY)∧
  Hid (Lg (nv ys*2^s) (nv xs*2^s) k l ql)∧Ext w wr) (fun u wr=>(intOf u+1).toNat)
 case atStart=>exact⟨M,us,_,aS _,eP,hlu,hwu,List.length_replicate,mU _,hbva,hbua,hbq,hL0,hexa⟩
 case round=>
  obtain⟨k,l,ql,hk,rfl,hll,hwl,hlq,hwq,hbv,hbu,hbq',hL,hr⟩:=hrel
  clear hbva hbua hbq hexa hL0 hlu hvu
  by_cases hk0:0<k
  ·obtain⟨j,rfl⟩:∃j,k=j+1:=⟨k-1,by omega⟩
   have ek:((j+1:Nat):Int)-1=(j:Int):=by omega
   rw [ek]
   obtain⟨u2,hu2k,hu2b,hcu2⟩:=hbu.word hwl (i:=j+n) (by rw [hll.out];omega)
   obtain⟨u1,hu1k,hu1b,hcu1⟩:=hbu.word hwl (i:=j+n-1) (by rw [hll.out];omega)
   obtain⟨u0,hu0k,hu0b,hcu0⟩:=hbu.word hwl (i:=j+n-2) (by rw [hll.out];omega)
   obtain⟨v1,hv1k,hv1b,hcv1⟩:=hbv.word hwv (i:=n-1) (by rw [hlv.out];omega)
   obtain⟨v0,hv0k,hv0b,hcv0⟩:=hbv.word hwv (i:=n-2) (by rw [hlv.out];omega)
   have hgs:=fun d=>NG (d:=d) hL.out hn (by rw [hll.out];omega) hwl hlv.out hwv hvv.out hv1.out
   rw [hu2k.out,hu1k.out,hu0k.out,hv1k.out,hv0k.out] at hgs
   have hu2v:u2≤v1:=(hgs 0).2.1
   have hv1p:0<v1:=by rw [←hv1k.out];exact hv1.out
   have HGS:=Lib.hid hgs
   clear hgs
   have hfin:∀(q:Nat) (l2:List Nat) (wr2:a7),q=nv l/(WB^j*(nv ys*2^s))→nv l2=nv l%(WB^j*(nv ys*2^s))→q≤18446744073709551615→l2.length=N+1→Wf l2→Bk wr2 gv 36 (vs.map aY)→Bk wr2 gu 36 (l2.map aY)→Bk wr2 gq 36 ((ql.set j q).map aY)→Ext w wr2→
     ∃(k:Nat) (l ql:List Nat),k≤M∧gK .i64 ((j:Int)-1)= v4 ((k:Int)-1)∧Hid (l.length=N+1)∧Wf l∧Hid (ql.length=M)∧Wf ql∧Bk wr2 gv 36 (vs.map aY)∧Bk wr2 gu 36 (l.map aY)∧Bk wr2 gq 36 (ql.map aY)∧
      Hid (Lg (nv ys*2^s) (nv xs*2^s) k l ql)∧Ext w wr2:=by
    intro q l2 wr2 h1 h2 h3 h4 h5 h6 h7 h8 h9
    exact⟨j,l2,ql.set j q,by omega,rfl,h4,h5,(show _=_ by rw [List.length_set];exact hlq.out),fW hwq j (by rw [cI];omega),h6,h7,h8,hL.out.step (by rw [hlq.out];omega) HVpos.out h1 h2,h9⟩
   have FIN:=Lib.hid hfin
   clear hfin
   go_upto_region 9 with (fail)
   obtain⟨d,hdb,hd1,hd2⟩:=OL ((u2*WB+u1)*WB+u0) (v1*WB+v0) (by rw [cI];omega)
   have hdd:=Lib.hid ((HGS.out d).2.2 hdb hd1 hd2)
   have HLT:=Lib.hid (HGS.out d).1
   have HD1:=Lib.hid hd1
   have HD2:=Lib.hid hd2
   clear hd1 hd2 HGS
   have w1e:IntKind.i64.wrap ((j:Int)+(n:Int))=(j:Int)+(n:Int):=IntWalk.i64_in _ (by omega)
   have w2e:IntKind.i64.wrap ((j:Int)+(n:Int)-1)=(j:Int)+(n:Int)-1:=IntWalk.i64_in _ (by omega)
   have w3e:IntKind.i64.wrap ((j:Int)+(n:Int)-2)=(j:Int)+(n:Int)-2:=IntWalk.i64_in _ (by omega)
   have w4e:IntKind.i64.wrap ((n:Int)-1)=(n:Int)-1:=IntWalk.i64_in _ (by omega)
   have w5e:IntKind.i64.wrap ((n:Int)-2)=(n:Int)-2:=IntWalk.i64_in _ (by omega)
   have t1:((j:Int)+(n:Int)).toNat=j+n:=by omega
   have t2:((j:Int)+(n:Int)-1).toNat=j+n-1:=by omega
   have t3:((j:Int)+(n:Int)-2).toNat=j+n-2:=by omega
   have t4:((n:Int)-1).toNat=n-1:=by omega
   have t5:((n:Int)-2).toNat=n-2:=by omega
   have b1:0≤(j:Int)+(n:Int):=by omega
   have b2:0≤(j:Int)+(n:Int)-1:=by omega
   have b3:0≤(j:Int)+(n:Int)-2:=by omega
   have b4:0≤(n:Int)-1:=by omega
   have b5:0≤(n:Int)-2:=by omega
   have c1:(j:Int)+(n:Int)<(N:Int)+1:=by omega
   have c2:(j:Int)+(n:Int)-1<(N:Int)+1:=by omega
   have c3:(j:Int)+(n:Int)-2<(N:Int)+1:=by omega
   have c4:(n:Int)-1<(n:Int):=by omega
   have c5:(n:Int)-2<(n:Int):=by omega
   go_quiet (exact OI hu2v hu1b hu0b hv1b hv0b hv1p hdb HD1.out HD2.out _ _)
   clear w1e w2e w3e w4e w5e t1 t2 t3 t4 t5 b1 b2 b3 b4 b5 c1 c2 c3 c4 c5
   obtain⟨wd,hwd⟩:∃wd,wr.drewN nq=wd:=⟨_,rfl⟩
   rw [hwd]
   have hbu1:Bk wd gu 36 (l.map aY):=by rw [←hwd];exact hbu.drewN nq
   have hbv1:Bk wd gv 36 (vs.map aY):=by rw [←hwd];exact hbv.drewN nq
   have hbq1:Bk wd gq 36 (ql.map aY):=by rw [←hwd];exact hbq'.drewN nq
   have hr1:Ext w wd:=by rw [←hwd];exact hr.drewN nq
   clear hwd hcu2 hcu1 hcu0 hcv1 hcv0
   have hvrd:=hbv1.rd hwv (o:=0) (n:=n) (cap:=n) (aS _) (by rw [hlv.out];omega) (by rw [eB];omega)
   rw [i9,List.take_of_length_le (by rw [hlv.out];exact aS _)] at hvrd
   go_wp2_with fail
   rw [show j+n+1-j=n+1 from by omega]
   refine (RE (o:=j) (m:=n) hbu1 hwl hvrd (fun a ha=>by cases ha;show gv≠gu;omega) (by rw [hll.out];omega) (by omega) (by omega) hdb).mono ?_
   rintro e w4 ⟨bb,rfl,l1,c,hb4,hw4,hll4,hdr4,hc4,hP4,hu4⟩
   have hll4':Hid (l1.length=N+1):=(show _=_ by rw [hll4.out,hll.out])
   have hL1:Hid (nv l1<WB^(j+n+1)):=DW (by rw [hll.out];omega) (by rw [hll4'.out];omega) hw4 hdr4.out HLT.out
   have hcase:=NI (D:=WB^j*(nv ys*2^s)) (lF (iO fF) HVpos.out) hdd.out.1 hdd.out.2 HLT.out hL1.out (by
    have h:=hP4.out.2
    rw [hvv.out,Nat.mul_left_comm] at h
    exact h) hc4
   have hbc:=hP4.out.1
   have hbv4:=hbv1.upd hu4 (by omega)
   have hbq4:=hbq1.upd hu4 (by omega)
   have hr4:=hu4.ext hr1 hgw2
   have hbb:bb=false∧c=0∨bb=true∧c=1:=by
    rcases bb with _ | _
    ·left;refine⟨rfl,?_⟩;simp at hbc;omega
    ·right;exact⟨rfl,hbc.1 rfl⟩
   clear hP4 hbc hc4 hbv hbu hbq' hbu1 hbv1 hbq1 hr hr1 hvrd
   rcases hbb with⟨rfl,hc⟩ | ⟨rfl,hc⟩
   ·have h0:=Lib.hid (hcase.1 hc)
    clear hcase hc
    obtain⟨z,hz,_,hcz⟩:=hbq4.word hwq (i:=j) (by rw [hlq.out];omega)
    have hfz:=hbq4.frozen j
    have hjM:(j:Int)<(M:Int):=by omega
    go_wp2_with fail
    go_roundw
    case rel=>exact FIN.out d l1 _ h0.out.1 h0.out.2 hdb hll4'.out hw4 (hbv4.far (by show gv≠gq;omega) _) (hb4.far (by show gu≠gq;omega) _) (by rw [←dO];exact hbq4.set _ _) (hr4.setCell hgw3 _)
    case measure=>simp [intOf]
   ·have h0:=Lib.hid (hcase.2 hc)
    clear hcase hc
    obtain⟨q,rfl⟩:∃q,d=q+1:=⟨_,h0.out.1⟩
    have hq:Hid (q=nv l/(WB^j*(nv ys*2^s))):=(show _=_ from Nat.succ.inj h0.out.1)
    have hvrd:=hbv4.rd hwv (o:=0) (n:=n) (cap:=n) (aS _) (by rw [hlv.out];omega) (by rw [eB];omega)
    rw [i9,List.take_of_length_le (by rw [hlv.out];exact aS _)] at hvrd
    go_wp2_with fail
    rw [show j+n+1-j=n+1 from by omega]
    refine (RH (o:=j) (m:=n) hb4 hw4 hvrd (fun a ha=>by cases ha;show gv≠gu;omega) (by rw [hll4'.out];omega) (by omega) (by omega)).mono ?_
    rintro e w5 ⟨rfl,l2,c2,hb5,hw5,hll5,hdr5,hc5,hP5,hu5⟩
    have hll5':Hid (l2.length=N+1):=(show _=_ by rw [hll5.out,hll4'.out])
    have hL2:Hid (nv l2<WB^(j+n+1)):=DW (by rw [hll4'.out];omega) (by rw [hll5'.out];omega) hw5 hdr5.out hL1.out
    have hfin2:Hid (nv l2=nv l%(WB^j*(nv ys*2^s))):=h0.out.2 (nv l2) c2 hc5 hL2.out (by have h:=hP5.out;rw [hvv.out] at h;exact h)
    have hbv5:=hbv4.upd hu5 (by omega)
    have hbq5:=hbq4.upd hu5 (by omega)
    have hr5:=hu5.ext hr4 hgw2
    clear hP5 hc5 hbv4 hbq4 hr4 hb4 hvrd h0
    obtain⟨z,hz,_,hcz⟩:=hbq5.word hwq (i:=j) (by rw [hlq.out];omega)
    have hfz:=hbq5.frozen j
    have hjM:(j:Int)<(M:Int):=by omega
    go_wp2_with fail
    go_roundw
    case rel=>exact FIN.out q l2 _ hq.out hfin2.out (by omega) hll5'.out hw5 (hbv5.far (by show gv≠gq;omega) _) (hb5.far (by show gu≠gq;omega) _) (by rw [←dO];exact hbq5.set _ _) (hr5.setCell hgw3 _)
    case measure=>simp [intOf]
  ·obtain rfl:k=0:=by omega
   have ek:((0:Nat):Int)-1= -1:=rfl
   rw [ek]
   have hLv:Hid (nv l<nv ys*2^s):=by
    have:=hL.out.lt
    rw [Nat.pow_zero,eG] at this
    exact this
   have hQ:=NH (X:=nv xs) (Y:=nv ys) (s:=s) (Q:=nv ql) (L:=nv l) (Nat.pos_of_mul_pos_right HVpos.out) (by have:=hL.out.eq;simpa using this) hLv.out
   have hln:Hid (nv (l.take n)=nv l):=by
    show _=_
    have e1:=lN l n (by rw [hll.out];omega)
    rcases kF (nv (l.drop n)) with h0 | h0
    ·rw [h0,fX,eI] at e1;exact e1.symm
    ·have:=Nat.le_mul_of_pos_right (WB^n) h0
     have h2:=hLv.out
     have h3:=HVfit.out
     omega
   have HQ:=Lib.hid hQ
   clear hQ
   have hurd:=hbu.rd hwl (o:=0) (n:=n) (cap:=N+1) (by omega) (by rw [hll.out];omega) (by rw [eB];omega)
   rw [i9] at hurd
   go_wp2_with fail
   refine (MO hurd (by omega) (by omega)).mono ?_
   rintro e w6 ⟨A6,n6,c6,rfl,hn6,hr6,ho6,hx6⟩
   rw [hln.out,HQ.out.2] at hn6 hr6 ho6
   have hqrd:=(hbq'.ext hx6).rd hwq (o:=0) (n:=M) (cap:=M) (aS _) (by rw [hlq.out];omega) (by rw [eB];omega)
   rw [i9,List.take_of_length_le (by rw [hlq.out];exact aS _)] at hqrd
   go_wp2_with fail
   refine (jW hqrd).mono ?_
   rintro e w7 ⟨A7,n7,c7,rfl,hn7,hr7,ho7,hx7⟩
   rw [HQ.out.1] at hn7 hr7 ho7
   go_wp2_with fail
   go_ret2
   exact⟨A7,n7,c7,A6,n6,c6,rfl,hn7,hr7,ho7.mono (hr.trans hx6).size,hn6,hr6.ext hx7,(ho6.mono hr.size).ext hx7,(hr.trans hx6).trans hx7,fun p p' hp hp'=>by have h1:=ho7.block p hp;have h2:=ho6.block p' hp';omega⟩
def HO (w:a7)(q r:Nat)(er:Int)(e:dM)(w':a7):Prop:=
 ∃A n cap B m cap',e= .returned (.tuple #[AT A n cap,AT B m cap',v4 er])∧Hid (n=(wd q).length)∧Rd w' A n cap (wd q)∧Own w' w.heap.size 36 1 A n cap ((wd q).map aY)∧
  Hid (m=(wd r).length)∧Rd w' B m cap' (wd r)∧Own w' w.heap.size 36 1 B m cap' ((wd r).map aY)∧Ext w w'
def RetQREA (w:a7)(q r:Nat)(er:Int)(e:dM)(w':a7):Prop:=
 ∃A n cap B m cap',e= .returned (.tuple #[AT A n cap,AT B m cap',v4 er])∧Hid (n=(wd q).length)∧Rd w' A n cap (wd q)∧Own w' w.heap.size 36 1 A n cap ((wd q).map aY)∧
  Hid (m=(wd r).length)∧Rd w' B m cap' (wd r)∧Own w' w.heap.size 36 1 B m cap' ((wd r).map aY)∧Ext w w'∧∀p p',A=some p→B=some p'→p.block≠p'.block
theorem RetQREA.old {r:Nat}{e:dM}(h:RetQREA w q r er e w'):HO w q r er e w':=by
 obtain⟨A,n,cap,B,m,cap',f,p,o,E,D,F,I,H,_⟩:=h
 exact⟨A,n,cap,B,m,cap',f,p,o,E,D,F,I,H⟩
theorem JH (h:m≠0):(wd m).getD ((wd m).length-1) 0≠0:=by
 intro f
 have hl:0<(wd m).length:=Nat.pos_of_ne_zero (fun e=>h (kO.1 e))
 have o:=oH (wd m) ((wd m).length-1) (by omega) f
 rw [iV (by omega),List.take_of_length_le (aS _),eD] at o
 have q:=jF (nW m) ((wd m).length-1)
 have p:=CS h
 omega
theorem wS {v:Nat}(h:1=(wd m).length)(hv:(wd m).getD 0 0=v):m=v:=by
 have f:=eE (wd m) 0 (by omega)
 rw [List.take_of_length_le (by omega),eD,hv] at f
 simpa [nv] using f
theorem FY (hx:Rd w A n cap xs)(hl:n≤274877906944)(hy:Rd w B n' cap' ys)(hl':n'≤274877906944)(h0:nv ys≠0):aQ aM 59 #[AT A n cap,AT B n' cap'] w (RetQREA w (nv xs/nv ys) (nv xs%nv ys) 0):=by
 go_enter Tryz.func59,Tryz.ntmps59
 go_wp2_with fail
 refine (jW hy).mono ?_
 rintro e w1 ⟨A1,n1,c1,rfl,hn1,hr1,ho1,hx1⟩
 have hn1p:0<n1:=by
  rw [hn1.out];exact Nat.pos_of_ne_zero (fun e=>h0 (kO.1 e))
 have hn1b:n1≤n':=by
  have:=gP hy.wf
  rw [hn1.out,←hy.len];exact this
 have b0:((n1:Int)==0)=false:=by simp;omega
 by_cases h1:n1=1
 ·subst h1
  obtain⟨a,v,rfl,hvk,hvb,hcv⟩:=hr1.get (i:=0) (by omega)
  have hv:Hid (nv ys=v):=wS hn1.out hvk.out
  have hcv0:w1.cell? a=some (AI (v:Int)):=by simpa [lJ] using hcv
  go_wp2_with fail
  refine (RI (hx.ext hx1) (by omega) (v:=v) (by rw [←hv.out];exact h0) hvb).mono ?_
  rintro e w2 ⟨A2,n2,c2,r,rfl,hr,hrb,hn2,hr2,ho2,hx2⟩
  go_wp2_with fail
  have hone:=Rd.one w2 hrb
  refine (jW hone).mono ?_
  rintro e w3 ⟨A3,n3,c3,rfl,hn3,hr3,ho3,hx3⟩
  rw [u4,hr.out,←hv.out] at hn3 hr3 ho3
  rw [←hv.out] at hn2 hr2 ho2
  have hal:Ext w2 w3:=((Ext.refl w2).alloc _).trans hx3
  go_wp2_with fail
  go_ret3
  exact⟨A2,n2,c2,A3,n3,c3,rfl,hn2,hr2.ext hal,(ho2.mono hx1.size).ext hal,hn3,hr3,ho3.mono (a6 (hx1.trans hx2).size (by simp)),(hx1.trans hx2).trans hal,fun p p' hp hp'=>by have h1:=ho2.block p hp;have h2:=ho3.block p' hp';simp only [World.alloc,Array.size_push] at h2;omega⟩
 ·have b1:((n1:Int)==1)=false:=by simp;omega
  go_wp2_with fail
  refine (jW (hx.ext hx1)).mono ?_
  rintro e w2 ⟨A2,n2,c2,rfl,hn2,hr2,ho2,hx2⟩
  have hn2b:n2≤n:=by
   have:=gP hx.wf
   rw [hn2.out,←hx.len];exact this
  go_wp2_with fail
  refine (uC hr2 (hr1.ext hx2)).mono ?_
  rintro e w3 ⟨c,hc,hcl,hch,rfl,hx3⟩
  rw [eD,eD] at hc
  by_cases hlt:nv xs<nv ys
  ·have hneg:c<0:=by rw [hc.out];exact mP.2 hlt
   go_wp2_with fail
   go_ret3
   rw [gC hlt,fM hlt]
   exact⟨none,0,0,A2,n2,c2,rfl,rfl,Rd.nil _,Own.nil _ _ _ _,hn2,hr2.ext hx3,(ho2.mono hx1.size).ext hx3,(hx1.trans hx2).trans hx3,fun p p' hp=>by cases hp⟩
  ·have hneg:¬c<0:=by rw [hc.out,mP];exact hlt
   have HL:=Lib.hid hlt
   have hn12:n1≤n2:=by rw [hn1.out,hn2.out];exact jX (by omega)
   clear hlt
   go_wp2_with fail
   refine (RF (hr2.ext hx3) (by omega) ((hr1.ext hx2).ext hx3) (by omega) hn12 (by rw [hn1.out];exact JH h0)).mono ?_
   rintro e w4 ⟨A4,n4,c4,A5,n5,c5,rfl,hn4,hr4,ho4,hn5,hr5,ho5,hx4,hap⟩
   rw [eD,eD] at hn4 hr4 ho4 hn5 hr5 ho5
   go_wp2_with fail
   go_ret3
   have hs:=((hx1.trans hx2).trans hx3)
   exact⟨A4,n4,c4,A5,n5,c5,rfl,hn4,hr4,ho4.mono hs.size,hn5,hr5,ho5.mono hs.size,hs.trans hx4,hap⟩
theorem uV (hx:Rd w A n cap xs)(hl:n≤274877906944)(hy:Rd w B n' cap' ys)(hl':n'≤274877906944)(h0:nv ys≠0):aQ aM 59 #[AT A n cap,AT B n' cap'] w (HO w (nv xs/nv ys) (nv xs%nv ys) 0):=(FY hx hl hy hl' h0).mono fun e w' h=>h.old
theorem RK (hx:Rd w A n cap xs)(hl:n≤274877906944)(hy:Rd w B n' cap' ys)(hl':n'≤274877906944)(h0:nv ys≠0)(h1:nv xs%nv ys≠0):aQ aM 62 #[AT A n cap,AT B n' cap'] w (fun e w'=>e= .returned (.tuple #[AT none 0 0,v4 8])∧Ext w w'):=by
 go_enter Tryz.func62,Tryz.ntmps62
 go_wp2_with fail
 refine (uV hx hl hy hl' h0).mono ?_
 rintro e w1 ⟨A4,n4,c4,A5,n5,c5,rfl,hn4,hr4,ho4,hn5,hr5,ho5,hx4⟩
 have hp:0<n5:=by rw [hn5.out];exact Nat.pos_of_ne_zero (fun e=>h1 (kO.1 e))
 go_wp2_with fail
 go_ret2
 exact⟨rfl,hx4⟩
theorem RL (hx:Rd w A n cap xs)(hl:n≤274877906944)(hy:Rd w B n' cap' ys)(hl':n'≤274877906944)(h0:nv ys≠0)(h1:nv xs%nv ys=0):aQ aM 62 #[AT A n cap,AT B n' cap'] w (sR w (nv xs/nv ys) 0):=by
 go_enter Tryz.func62,Tryz.ntmps62
 have H1:=Lib.hid h1
 clear h1
 go_wp2_with fail
 refine (uV hx hl hy hl' h0).mono ?_
 rintro e w1 ⟨A4,n4,c4,A5,n5,c5,rfl,hn4,hr4,ho4,hn5,hr5,ho5,hx4⟩
 obtain rfl:n5=0:=by rw [hn5.out,H1.out];rfl
 go_wp2_with fail
 go_ret2
 exact⟨A4,n4,c4,rfl,hn4,hr4,ho4,hx4⟩
def AQ:Option aI→Nat
 | some (.int _ z)=>z.toNat
 | _=>0
def numAt (w:a7):aI→Nat
 | .slice (some a) n _=>nv ((dB n).map fun i=>AQ (w.cell? (a.add i)))
 | _=>0
theorem Rd.numAt (h:Rd w A n cap xs):Go.Proofs.YtkkabncicmhjfaaGreat.numAt w (AT A n cap)=nv xs:=by
 have f:=h.len
 cases A with
 | none=>
  have hn:n=0:=by
   rcases kF n with p | p
   ·exact p
   ·obtain⟨a,o,_⟩:=h.rv.get 0 (by omega)
    cases o
  have:xs= []:=List.eq_nil_of_length_eq_zero (by omega)
  subst this
  rfl
 | some a=>
  show nv _=_
  congr 1
  apply List.ext_getElem
  ·simp [f]
  ·intro i _ q
   obtain⟨a',x,o,hx,_,D⟩:=h.get (i:=i) (by omega)
   cases o
   have e:xs[i]=x:=by
    have:=hx.out
    simpa [bE,cA q] using this
   simp [D,AQ,e]
theorem ER (a b:Nat):Nat.gcd a b=Nat.gcd b (a%b):=by
 rw [Nat.gcd_comm a b,Nat.gcd_rec b a,Nat.gcd_comm]
def TT (w:a7)(x:Nat)(e:dM)(w':a7):Prop:=
 ∃g,e= .returned (AT (some ⟨g,0,none⟩) 1 1)∧w.heap.size≤g∧Bk w' g 36 ([x].map aY)∧x≤18446744073709551615∧Ext w w'
theorem RD {x y:Nat}(hx:x≤18446744073709551615)(hy:y≤18446744073709551615)(w:a7):aQ aM 103 #[AI (x:Int),AI (y:Int)] w (TT w (Nat.gcd x y)):=by
 go_enter Tryz.func103,Tryz.ntmps103
 go_wp2_with fail
 go_loopw [0,1] (fun u v wr=>∃a b:Nat,u= AI (a:Int)∧v= AI (b:Int)∧a≤18446744073709551615∧b≤18446744073709551615∧Hid (Nat.gcd a b=Nat.gcd x y)∧Ext w wr) (fun u v wr=>(intOf v).toNat)
 case atStart=>exact⟨x,y,rfl,rfl,hx,hy,rfl,Ext.refl w⟩
 case round=>
  obtain⟨a,b,rfl,rfl,ha,hb,hg,hr⟩:=hrel
  by_cases h0:b=0
  ·subst h0
   have b0:((0:Int) != 0)=false:=rfl
   go_wp2_with fail
   go_ret
   have e:Nat.gcd x y=a:=by rw [←hg.out,Nat.gcd_zero_right]
   rw [e]
   exact⟨wr.heap.size,rfl,hr.size,Bk.new wr 36 [AI (a:Int)],ha,hr.alloc _⟩
  ·have b0:((b:Int) != 0)=true:=by simp;omega
   have b1:((b:Int)==0)=false:=by simp;omega
   have h2:¬(b:Int)≤0:=by omega
   have h5:=m7 (a:Int) (b:=(b:Int)) (by omega)
   have h6:=Int.emod_lt_of_pos (a:Int) (b:=(b:Int)) (by omega)
   have HM:=Lib.hid (gB a (show 0<b by omega))
   go_wp2_with fail
   go_quiet (fail)
   go_wp2_with fail
   go_roundw
   case rel=>exact⟨b,a%b,rfl,eP (h:=(by simp)),hb,by have:=HM.out;omega,(show _=_ by rw [←hg.out,←ER]),hr.drewN _⟩
   case measure=>have:=HM.out;simp [intOf];omega
theorem RJ (hx:Rd w A n cap xs)(hl:n≤274877906944)(hy:Rd w B n' cap' ys)(hl':n'≤274877906944):aQ aM 78 #[AT A n cap,AT B n' cap'] w (j9 w (Nat.gcd (nv xs) (nv ys))):=by
 go_enter Tryz.func78,Tryz.ntmps78
 go_wp2_with fail
 refine (jW hx).mono ?_
 rintro e w1 ⟨A1,n1,c1,rfl,hn1,hr1,ho1,hx1⟩
 have hn1b:n1≤274877906944:=by rw [hn1.out];exact a6 (by have:=gP hx.wf;rw [hx.len] at this;exact this) hl
 go_wp2_with fail
 refine (jW (hy.ext hx1)).mono ?_
 rintro e w2 ⟨A2,n2,c2,rfl,hn2,hr2,ho2,hx2⟩
 have hn2b:n2≤274877906944:=by rw [hn2.out];exact a6 (by have:=gP hy.wf;rw [hy.len] at this;exact this) hl'
 go_wp2_with fail
 go_loopw [5,6] (fun u v wr=>∃(A B:Option aG) (n cap m cap' a b:Nat),u= AT A n cap∧v= AT B m cap'∧n≤274877906944∧m≤274877906944∧Hid (n=(wd a).length)∧Hid (m=(wd b).length)∧Rd wr A n cap (wd a)∧Own wr w.heap.size 36 1 A n cap ((wd a).map aY)∧
  Rd wr B m cap' (wd b)∧Own wr w.heap.size 36 1 B m cap' ((wd b).map aY)∧Hid (Nat.gcd a b=Nat.gcd (nv xs) (nv ys))∧Ext w wr) (fun u v wr=>numAt wr v)
 case atStart=>exact⟨A1,A2,n1,c1,n2,c2,nv xs,nv ys,rfl,rfl,hn1b,hn2b,hn1,hn2,hr1.ext hx2,ho1.ext hx2,hr2,ho2.mono hx1.size,rfl,hx1.trans hx2⟩
 case round=>
  obtain⟨A,B,n,cap,m,cap',a,b,rfl,rfl,hnb,hmb,hn,hm,hra,hoa,hrb,aC,hg,hr⟩:=hrel
  clear hr1 hr2 ho1 ho2 hx hy hn1 hn2
  by_cases hm0:0<m
  ·have hb0:b≠0:=fun h=>by rw [hm.out,h] at hm0;simp [kT] at hm0
   have HB:=Lib.hid hb0
   clear hb0
   by_cases hcase:n=1∧m=1
   ·obtain⟨rfl,rfl⟩:=hcase
    obtain⟨p,x,rfl,hxk,hxb,hcx⟩:=hra.get (i:=0) (by omega)
    obtain⟨q,y,rfl,hyk,hyb,hcy⟩:=hrb.get (i:=0) (by omega)
    have ea:Hid (a=x):=wS hn.out hxk.out
    have eb:Hid (b=y):=wS hm.out hyk.out
    have hcx0:wr.cell? p=some (AI (x:Int)):=by simpa [lJ] using hcx
    have hcy0:wr.cell? q=some (AI (y:Int)):=by simpa [lJ] using hcy
    clear hcx hcy
    go_wp2_with fail
    go_region_with (first
     | (go_at_call 103;refine (RD hxb hyb _).mono ?_;rintro er w5 ⟨g5,rfl,hg5,hb5,hx5b,hx5⟩))
    all_goals
     go_wp2_with fail
     go_ret
     have h5:Ext w w5:=hr.trans (Ext.trans (by repeat (first | exact Ext.refl _ | assumption | apply Ext.drewN | apply Ext.drew | apply Ext.alloc)) hx5)
     have hgs:wr.heap.size≤g5:=hg5
     have hne:Nat.gcd x y≠0:=by
      have:=Nat.gcd_pos_of_pos_right x (n:=y) (Nat.pos_of_ne_zero (by rw [←eb.out];exact HB.out))
      omega
     have e6:Nat.gcd (nv xs) (nv ys)=Nat.gcd x y:=by rw [←hg.out,ea.out,eb.out]
     rw [e6]
     exact pA (ys:= [Nat.gcd x y]) (a6 hr.size hgs) hb5 G (aS _) (by rw [eB];omega) (by rw [wR (by rw [cI];omega) hne];rfl) h5
   ·have hd:decide ((n:Int)=1)=false∨decide ((m:Int)=1)=false:=by
     by_cases h:n=1
     ·right;simp;omega
     ·left;simp;omega
    have key:∀(Q' R':Option aG) (nq cq nr cr:Nat) (w5:a7),Hid (nr=(wd (a%b)).length)→Rd w5 R' nr cr (wd (a%b))→Own w5 wr.heap.size 36 1 R' nr cr ((wd (a%b)).map aY)→Ext wr w5→
      (∃(A B':Option aG) (n cap m' cap'' a b:Nat),nY B m cap'= AT A n cap∧nY R' nr cr= AT B' m' cap''∧n≤274877906944∧m'≤274877906944∧Hid (n=(wd a).length)∧Hid (m'=(wd b).length)∧Rd w5 A n cap (wd a)∧Own w5 w.heap.size 36 1 A n cap ((wd a).map aY)∧
       Rd w5 B' m' cap'' (wd b)∧Own w5 w.heap.size 36 1 B' m' cap'' ((wd b).map aY)∧Hid (Nat.gcd a b=Nat.gcd (nv xs) (nv ys))∧Ext w w5)∧numAt w5 (AT R' nr cr)<numAt wr (AT B m cap'):=by
     intro Q' R' nq cq nr cr w5 h1 h2 h3 h4
     have hmod:a%b<b:=gB a (Nat.pos_of_ne_zero HB.out)
     refine⟨⟨B,R',m,cap',nr,cr,b,a%b,rfl,rfl,hmb,?_,hm,h1,hrb.ext h4,aC.ext h4,h2,h3.mono hr.size,(show _=_ by rw [←hg.out,←ER]),hr.trans h4⟩,?_⟩
     ·rw [h1.out]
      refine a6 (jX (Nat.le_of_lt hmod)) ?_
      rw [←hm.out];exact hmb
     ·rw [h2.numAt,hrb.numAt,eD,eD];exact hmod
    have KEY:=Lib.hid key
    clear key
    by_cases hn1':n=1
    ·have hm1:((m:Int)==1)=false:=by
      have:¬m=1:=fun h=>hcase ⟨hn1',h⟩
      simp;omega
     have bn1:((n:Int)==1)=true:=by simp;omega
     clear hcase hd hn1'
     go_wp2_with fail
     refine (uV hra (by omega) hrb (by omega) (by rw [eD];exact HB.out)).mono ?_
     rintro e w5 ⟨Aq,nq,cq,Ar,nr,cr,rfl,hnq,hrq,hoq,hnr,hrr,hor,hx5⟩
     rw [eD,eD] at hnr hrr hor
     go_wp2_with fail
     go_roundw
     case rel=>exact (KEY.out Aq Ar nq cq nr cr w5 hnr hrr hor hx5).1
     case measure=>exact (KEY.out Aq Ar nq cq nr cr w5 hnr hrr hor hx5).2
    ·have bn1:((n:Int)==1)=false:=by simp;omega
     clear hcase hd hn1'
     go_wp2_with fail
     refine (uV hra (by omega) hrb (by omega) (by rw [eD];exact HB.out)).mono ?_
     rintro e w5 ⟨Aq,nq,cq,Ar,nr,cr,rfl,hnq,hrq,hoq,hnr,hrr,hor,hx5⟩
     rw [eD,eD] at hnr hrr hor
     go_wp2_with fail
     go_roundw
     case rel=>exact (KEY.out Aq Ar nq cq nr cr w5 hnr hrr hor hx5).1
     case measure=>exact (KEY.out Aq Ar nq cq nr cr w5 hnr hrr hor hx5).2
  ·have hb0:b=0:=kO.1 (by rw [←hm.out];omega)
   have e:Nat.gcd (nv xs) (nv ys)=a:=by rw [←hg.out,hb0,Nat.gcd_zero_right]
   have HE:=Lib.hid e
   clear e hb0
   go_wp2_with fail
   go_ret
   rw [HE.out]
   exact⟨A,n,cap,rfl,hn,hra,hoa,hr⟩
def sg (s:Bool)(m:Nat):Int:=if s then-(m:Int) else m
theorem mF (m:Nat):sg false m=m:=rfl
theorem rP (m:Nat):sg true m= -(m:Int):=rfl
theorem jU (s:Bool)(m:Nat):(sg s m).natAbs=m:=by cases s <;> simp [sg]
theorem KZ (z:Int):sg (decide (z<0)) z.natAbs=z:=by
 by_cases h:z<0
 ·rw [decide_eq_true h,rP];omega
 ·rw [decide_eq_false h,mF];omega
theorem KY (s:Bool):sg s 0=0:=by cases s <;> rfl
theorem BW:sg s m=0↔m=0:=by cases s <;> simp [sg]
theorem BU (s:Bool)(m:Nat):sg (!s) m= -sg s m:=by cases s <;> simp [sg]
theorem pU (s:Bool)(m:Nat):decide (sg s m<0)=(s&&decide (0<m)):=by
 cases s
 ·simp [sg]
 ·by_cases h:0<m
  ·simp [sg,h]
  ·have:m=0:=by omega
   subst this
   simp [sg]
theorem x7 (s:Bool)(m k:Nat):sg s (m+k)=sg s m+sg s k:=by cases s <;> simp [sg] <;> omega
theorem pT (h:k≤m):sg s (m-k)=sg s m+sg (!s) k:=by cases s <;> simp [sg] <;> omega
theorem BV (s t:Bool)(m k:Nat):sg (s != t) (m*k)=sg s m*sg t k:=by
 cases s <;> cases t <;> simp [sg,Int.mul_neg,Int.neg_mul]
theorem wZ (s t:Bool)(m k:Nat):sg (s != t) (m/k)=(sg s m).tdiv (sg t k):=by
 cases s <;> cases t <;> simp [sg,Int.tdiv_neg,Int.neg_tdiv]
theorem BT (s t:Bool)(m k:Nat):sg s (m%k)=(sg s m).tmod (sg t k):=by
 cases s <;> cases t <;> simp [sg,Int.tmod_neg,Int.neg_tmod] <;> rfl
def ln (z:Int):Nat:=(wd z.natAbs).length
theorem iA (h:x.natAbs≤y.natAbs):ln x≤ln y:=jX h
theorem uH (x:Int):ln (-x)=ln x:=by unfold ln;rw [Int.natAbs_neg]
theorem gO (hx:ln x≤a)(hy:ln y≤b):ln (x+y)≤max a b+1:=by
 have f:=jX (Int.natAbs_add_le x y)
 have h:=y4 x.natAbs y.natAbs
 unfold ln at*
 omega
theorem gG (hx:ln x≤a)(hy:ln y≤b):ln (x-y)≤max a b+1:=by
 rw [Int.sub_eq_add_neg]
 exact gO hx (by rw [uH];exact hy)
theorem dR (hx:ln x≤a)(hy:ln y≤b):ln (x*y)≤a+b:=by
 have f:=E8 x.natAbs y.natAbs
 unfold ln at*
 rw [Int.natAbs_mul]
 omega
theorem NK (m:Nat):ln (m:Int)=(wd m).length:=by unfold ln;rw [Int.natAbs_natCast]
theorem DY:ln 0=0:=rfl
theorem xZ:ln 1=1:=by decide+kernel
def Zi (w:a7)(s:Bool)(A:Option aG)(n cap:Nat)(z:Int):Prop:=∃xs,Rd w A n cap xs∧sg s (nv xs)=z
theorem Zi.ext {z:Int}(h:Zi w s A n cap z)(e:Ext w w'):Zi w' s A n cap z:=by
 obtain⟨xs,f,o⟩:=h
 exact⟨xs,f.ext e,o⟩
theorem Zi.ln {z:Int}(h:Zi w s A n cap z):Go.Proofs.YtkkabncicmhjfaaGreat.ln z≤n:=by
 obtain⟨xs,f,rfl⟩:=h
 have:=gP f.wf
 rw [f.len] at this
 unfold Go.Proofs.YtkkabncicmhjfaaGreat.ln
 rw [jU]
 exact this
theorem Zi.not {z:Int}(h:Zi w s A n cap z):Zi w (!s) A n cap (-z):=by
 obtain⟨xs,f,rfl⟩:=h
 exact⟨xs,f,BU _ _⟩
structure Zr (w:a7)(base:Nat)(s:Bool)(A:Option aG)(n cap:Nat)(z:Int):Prop where
 sgn:s=decide (z<0)
 len:n=ln z
 own:Own w base 36 1 A n cap ((wd z.natAbs).map aY)
theorem Zr.rd {z:Int}(h:Zr w base s A n cap z):Rd w A n cap (wd z.natAbs):=h.own.rd (nW _)
theorem Zr.ext {z:Int}(h:Zr w base s A n cap z)(e:Ext w w'):Zr w' base s A n cap z:=⟨h.sgn,h.len,h.own.ext e⟩
theorem Zr.mono {base':Nat}{z:Int}(h:Zr w base s A n cap z)(e:base'≤base):Zr w base' s A n cap z:=⟨h.sgn,h.len,h.own.mono e⟩
theorem Zr.zi {z:Int}(h:Zr w base s A n cap z):Zi w s A n cap z:=⟨_,h.rd,by rw [eD,h.sgn,KZ]⟩
theorem Zr.upd {z:Int}(h:Zr w base s A n cap z)(hg:g<base)(e:Upd g w w'):Zr w' base s A n cap z:=
 ⟨h.sgn,h.len,h.own.upd e (fun a f=>by have:=(h.own.block a f).1;omega)⟩
theorem Zr.cast {z z':Int}(h:Zr w base s A n cap z)(e:z=z'):Zr w base s A n cap z':=e▸h
theorem Zr.le {z:Int}(h:Zr w base s A n cap z)(hb:ln z≤b):n≤b:=by rw [h.len];exact hb
theorem Zr.ln_le {z:Int}(h:Zr w base s A n cap z)(hb:n≤b):ln z≤b:=by rw [←h.len];exact hb
theorem Zr.zero:Zr w base false none 0 0 0:=⟨by decide,rfl,Own.nil _ _ _ _⟩
def kZ (w:a7)(z:Int)(e:dM)(w':a7):Prop:=
 ∃s A n cap,e= .returned (J s A n cap)∧Zr w' w.heap.size s A n cap z∧Ext w w'
def zF (w:a7)(q r:Int)(er:Int)(e:dM)(w':a7):Prop:=
 ∃s A n cap s' B m cap',e= .returned (.tuple #[J s A n cap,J s' B m cap',v4 er])∧Zr w' w.heap.size s A n cap q∧Zr w' w.heap.size s' B m cap' r∧Ext w w'
theorem iL {z:Int}(h:s'=decide (sg s m<0))(hn:n=(wd m).length)(ho:Own w base 36 1 A n cap ((wd m).map aY))(hz:sg s m=z):Zr w base s' A n cap z:=by
 have e:z.natAbs=m:=by rw [←hz,jU]
 rw [hz] at h
 exact⟨h,by unfold ln;rw [e];exact hn,by rw [e];exact ho⟩
theorem Bk.two {a b:aI}(h:Bk w g t [a,b]):w.cell? ⟨g,0,none⟩=some a∧w.cell? ⟨g,1,none⟩=some b∧w.frozen? ⟨g,0,none⟩=false∧w.frozen? ⟨g,1,none⟩=false:=
 ⟨h.cell (i:=0) (by simp),h.cell (i:=1) (by simp),h.frozen 0,h.frozen 1⟩
theorem Bk.two_set {a b:aI}(h:Bk w g t [a,b])(u v:aI):Bk ((w.setCell ⟨g,0,none⟩ u).setCell ⟨g,1,none⟩ v) g t [u,v]:=(h.set 0 u).set 1 v
theorem Upd.two (u v:aI):Upd g w ((w.setCell ⟨g,0,none⟩ u).setCell ⟨g,1,none⟩ v):=((Upd.refl g w).setCell 0 u).setCell 1 v
theorem Bk.sec {l:Array aI}{a b:aI}:Bk ((w.alloc (.cells l t')).alloc (.cells #[a,b] t)) (w.heap.size+1) t [a,b]:=by
 have:=Bk.new (w.alloc (.cells l t')) t [a,b]
 simpa using this
theorem Bk.thi {l:Array aI}{a b:aI}:Bk (((w.alloc (.cells l t')).alloc (.cells l' t'')).alloc (.cells #[a,b] t)) (w.heap.size+2) t [a,b]:=by
 have:=Bk.new ((w.alloc (.cells l t')).alloc (.cells l' t'')) t [a,b]
 simpa using this
theorem Bk.fou {t''':aU}{l l'':Array aI}{a b:aI}:Bk ((((w.alloc (.cells l t')).alloc (.cells l' t'')).alloc (.cells l'' t''')).alloc (.cells #[a,b] t)) (w.heap.size+3) t [a,b]:=by
 have:=Bk.new (((w.alloc (.cells l t')).alloc (.cells l' t'')).alloc (.cells l'' t''')) t [a,b]
 simpa using this
theorem yX (w:a7)(t t':aU)(a b c d:aI):∃g g2 wa,w.heap.size+1=g2∧w.heap.size=g∧(w.alloc (.cells #[a,b] t)).alloc (.cells #[c,d] t')=wa∧Bk wa g t [a,b]∧Bk wa g2 t' [c,d]∧Ext w wa∧g<g2∧g2<wa.heap.size∧g≠g2∧g2≠g:=
 ⟨_,_,_,rfl,rfl,rfl,(Bk.new w t [a,b]).alloc _,Bk.sec,((Ext.refl w).alloc _).alloc _,by omega,by simp,by omega,by omega⟩
theorem vC (w:a7)(t t' t'':aU)(a b c d e f:aI):∃g g2 g3 wa,w.heap.size+1+1=g3∧w.heap.size+1=g2∧w.heap.size=g∧((w.alloc (.cells #[a,b] t)).alloc (.cells #[c,d] t')).alloc (.cells #[e,f] t'')=wa∧Bk wa g t [a,b]∧Bk wa g2 t' [c,d]∧Bk wa g3 t'' [e,f]∧Ext w wa∧g<g2∧g2<g3∧g3<wa.heap.size∧g≠g2∧g2≠g∧g≠g3∧g3≠g∧g2≠g3∧g3≠g2:=
 ⟨_,_,_,_,rfl,rfl,rfl,rfl,((Bk.new w t [a,b]).alloc _).alloc _,Bk.sec.alloc _,Bk.thi,(((Ext.refl w).alloc _).alloc _).alloc _,by omega,by omega,by simp,by omega,by omega,by omega,by omega,by omega,by omega⟩
theorem SM (w:a7)(t t' t'' t''':aU)(a b c d e f i j:aI):∃g g2 g3 g4 wa,w.heap.size+1+1+1=g4∧w.heap.size+1+1=g3∧w.heap.size+1=g2∧w.heap.size=g∧(((w.alloc (.cells #[a,b] t)).alloc (.cells #[c,d] t')).alloc (.cells #[e,f] t'')).alloc (.cells #[i,j] t''')=wa∧Bk wa g t [a,b]∧Bk wa g2 t' [c,d]∧Bk wa g3 t'' [e,f]∧Bk wa g4 t''' [i,j]∧Ext w wa∧g<g2∧g2<g3∧g3<g4∧g4<wa.heap.size∧g≠g2∧g2≠g∧g≠g3∧g3≠g∧g2≠g3∧g3≠g2∧g≠g4∧g4≠g∧g2≠g4∧g4≠g2∧g3≠g4∧g4≠g3:=
 ⟨_,_,_,_,_,rfl,rfl,rfl,rfl,rfl,(((Bk.new w t [a,b]).alloc _).alloc _).alloc _,(Bk.sec.alloc _).alloc _,Bk.thi.alloc _,Bk.fou,((((Ext.refl w).alloc _).alloc _).alloc _).alloc _,by omega,by omega,by omega,by simp,by omega,by omega,by omega,by omega,by omega,by omega,by omega,by omega,by omega,by omega,by omega,by omega⟩
theorem lT {w2:a7}{x y:aI}{z:Int}(_hb:Bk w2 g T [x,y])(hz:Zr w2 base s A n cap z)(hg:g<base)(he:Ext w w2)(hw:w.heap.size≤g:=by omega):kZ w z (.returned (J s A n cap)) ((w2.setCell ⟨g,0,none⟩ (.bool s)).setCell ⟨g,1,none⟩ (AT A n cap)):=
 ⟨s,A,n,cap,rfl,(hz.upd hg (Upd.two _ _)).mono (by omega),(Upd.two _ _).ext he hw⟩
theorem lM {a b:aI}{s:Tmp}(hf:fn.results= #[.cell s 24])(hs:tmps.getD s undef= no g 0)(h:Bk w g t [a,b]):(results fn tmps).run aM w= .ok (.agg #[a,b]) w:=by
 obtain⟨h1,h2,_,_⟩:=h.two
 have hs2:tmps[s]?.getD undef= no g 0:=by simpa using hs
 simp [results,hf,hs2,loadVar,loadCells,loadCellsFrom,go_sem,h1,h2]
def bN (x y:Int):Int:=if x<y then-1 else if x=y then 0 else 1
theorem LF (x y:Int): -1≤bN x y∧bN x y≤1:=by unfold bN;split <;> (try split) <;> omega
theorem oC:bN x y<0↔x<y:=by unfold bN;split <;> (try split) <;> omega
theorem kK:bN x y=0↔x=y:=by unfold bN;split <;> (try split) <;> omega
theorem x8:0<bN x y↔y<x:=by unfold bN;split <;> (try split) <;> omega
def zE (v:Int)(w:a7)(e:dM)(w':a7):Prop:=∃c:Int,Hid (c=v)∧ -1≤c∧c≤1∧e= .returned (v4 c)∧Ext w w'
theorem kR (hn:n=(wd m).length):aQ aM 57 #[.bool s,AT A n cap] w fun e w'=>∃s',e= .returned (J s' A n cap)∧Hid (s'=decide (sg s m<0))∧Ext w w':=by
 have hm:decide (0<m)=decide (0<n):=by
  by_cases h:m=0
  ·rw [h] at hn⊢;rw [hn];rfl
  ·have:n≠0:=fun e=>h (kO.1 (by rw [←hn,e]))
   rw [decide_eq_true (show 0<m by omega),decide_eq_true (show 0<n by omega)]
 have HM:Hid (decide (sg s m<0)=(s&&decide (0<n))):=(show _=_ by rw [pU,hm])
 clear hm hn
 go_enter Tryz.func57,Tryz.ntmps57
 cases s
 ·go_wp2_with fail
  refine iT (v:= J false A n cap) (by simp [results,Tryz.results57,go_sem]) G ?_
  exact⟨_,rfl,(show _=_ by rw [HM.out];rfl),(Ext.refl w).alloc _⟩
 ·by_cases h:n=0
  ·subst h
   go_wp2_with fail
   refine iT (v:= J false A 0 cap) (by simp [results,Tryz.results57,go_sem]) G ?_
   exact⟨_,rfl,(show _=_ by rw [HM.out];rfl),(Ext.refl w).alloc _⟩
  ·have h0:0<n:=by omega
   have hd:decide (0<n)=true:=decide_eq_true h0
   have hi:0<(n:Int):=by omega
   go_wp2_with fail
   refine iT (v:= J true A n cap) (by simp [results,Tryz.results57,go_sem]) G ?_
   exact⟨_,rfl,(show _=_ by rw [HM.out,hd];rfl),(Ext.refl w).alloc _⟩
theorem IU (hx:Zi w s A n cap x)(hl:n≤68719476736):aQ aM 29 #[J s A n cap] w (kZ w (-x)):=by
 obtain⟨xs,hr,rfl⟩:=hx
 go_enter Tryz.func29,Tryz.ntmps29
 go_upto_region 1 with (fail)
 obtain⟨g,g2,wa,hg2,hg,hwa,hb1,hb2,hea,l12,l2,n12,n21⟩:=yX w 24 24 (.bool s) (AT A n cap) (BY) (AT none 0 0)
 rw [hg2,hg,hwa]
 have hgw:w.heap.size≤g:=Nat.le_of_eq hg
 clear hwa hg hg2
 obtain⟨f1,f2,f3,f4⟩:=hb1.two
 obtain⟨k1,k2,k3,k4⟩:=hb2.two
 go_region_held3 (fun w'=>w'.cell? ⟨g,0,none⟩=some (.bool s)∧w'.cell? ⟨g,1,none⟩=some (AT A n cap)) (go_keep)
  (first
  | (go_at_call 58;refine (jW (hr.ext (by repeat (first | exact Ext.refl _ | assumption | apply Ext.drewN | apply Ext.drew | apply Ext.alloc)))).mono ?_;rintro e w1 ⟨A1,n1,c1,rfl,hn1,hr1,ho1,hx1⟩;have he1:Ext wa w1:=Ext.trans (by repeat (first | exact Ext.refl _ | assumption | apply Ext.drewN | apply Ext.drew | apply Ext.alloc)) hx1;have hc1:=hb1.ext he1;have hc2:=hb2.ext he1;obtain⟨f1',f2',f3',f4'⟩:=hc1.two;obtain⟨k1',k2',k3',k4'⟩:=hc2.two)
  | (go_at_call 57;refine (kR hn1.out).mono ?_;rintro e w2 ⟨s',rfl,hs',hx2⟩;have hd1:=hc1.ext hx2;have hd2:=hc2.ext hx2;obtain⟨f1'',f2'',f3'',f4''⟩:=hd1.two;obtain⟨k1'',k2'',k3'',k4''⟩:=hd2.two))
 go_wp2_with fail
 refine iT (lM G G (hd2.two_set _ _)) G ?_
 exact lT hd2 ((iL hs'.out hn1.out ho1 (BU _ _)).ext hx2) (by first | omega | (simp;omega)) (hea.trans (he1.trans hx2))
theorem IX (hx:Zi w s A n cap x)(hl:n≤68719476736):aQ aM 24 #[J s A n cap] w (kZ w (x.natAbs:Int)):=by
 obtain⟨xs,hr,rfl⟩:=hx
 go_enter Tryz.func24,Tryz.ntmps24
 go_upto_region 1 with (fail)
 obtain⟨g,g2,wa,hg2,hg,hwa,hb1,hb2,hea,l12,l2,n12,n21⟩:=yX w 24 24 (.bool s) (AT A n cap) (BY) (AT none 0 0)
 rw [hg2,hg,hwa]
 have hgw:w.heap.size≤g:=Nat.le_of_eq hg
 clear hwa hg hg2
 obtain⟨f1,f2,f3,f4⟩:=hb1.two
 go_wp2_with fail
 refine (jW (hr.ext hea)).mono ?_
 rintro e w1 ⟨A1,n1,c1,rfl,hn1,hr1,ho1,hx1⟩
 have hc2:=hb2.ext hx1
 go_wp2_with fail
 refine (kR hn1.out).mono ?_
 rintro e w2 ⟨s',rfl,hs',hx2⟩
 have hd2:=hc2.ext hx2
 obtain⟨k1,k2,k3,k4⟩:=hd2.two
 go_wp2_with fail
 refine iT (lM G G (hd2.two_set _ _)) G ?_
 exact lT hd2 ((iL hs'.out hn1.out ho1 (by rw [jU,mF])).ext hx2) (by omega) (hea.trans (hx1.trans hx2))
theorem IV {t:Bool}(hx:Zi w s A n cap x)(hl:n≤68719476736)(hy:Zi w t B m cap' y)(hl':m≤68719476736):aQ aM 28 #[J s A n cap,J t B m cap'] w (kZ w (x*y)):=by
 obtain⟨xs,hr,rfl⟩:=hx
 obtain⟨ys,hq,rfl⟩:=hy
 go_enter Tryz.func28,Tryz.ntmps28
 go_upto_region 1 with (fail)
 obtain⟨g,g2,g3,wa,hg3,hg2,hg,hwa,hb1,hb2,hb3,hea,l12,l23,l3,n12,n21,n13,n31,n23,n32⟩:=vC w 24 24 24 (.bool s) (AT A n cap) (.bool t) (AT B m cap') (BY) (AT none 0 0)
 rw [hg3,hg2,hg,hwa]
 have hgw:w.heap.size≤g:=Nat.le_of_eq hg
 clear hwa hg hg2 hg3
 obtain⟨f1,f2,f3,f4⟩:=hb1.two
 obtain⟨h1,h2,h3,h4⟩:=hb2.two
 obtain⟨k1,k2,k3,k4⟩:=hb3.two
 go_region_held3 (fun w'=>w'.cell? ⟨g,0,none⟩=some (.bool s)∧w'.cell? ⟨g,1,none⟩=some (AT A n cap)∧w'.cell? ⟨g2,0,none⟩=some (.bool t)∧w'.cell? ⟨g2,1,none⟩=some (AT B m cap')) (go_keep)
  (first
  | (go_at_call 61;refine (MU (hr.ext (by repeat (first | exact Ext.refl _ | assumption | apply Ext.drewN | apply Ext.drew | apply Ext.alloc))) (hq.ext (by repeat (first | exact Ext.refl _ | assumption | apply Ext.drewN | apply Ext.drew | apply Ext.alloc))) (by omega)).mono ?_;rintro e w1 ⟨A1,n1,c1,rfl,hn1,hr1,ho1,hx1⟩;have he1:Ext wa w1:=Ext.trans (by repeat (first | exact Ext.refl _ | assumption | apply Ext.drewN | apply Ext.drew | apply Ext.alloc)) hx1;have hc1:=hb1.ext he1;have hc2:=hb2.ext he1;have hc3:=hb3.ext he1;obtain⟨f1',f2',f3',f4'⟩:=hc1.two;obtain⟨h1',h2',h3',h4'⟩:=hc2.two;obtain⟨k1',k2',k3',k4'⟩:=hc3.two)
  | (go_at_call 57;refine (kR hn1.out).mono ?_;rintro e w2 ⟨s',rfl,hs',hx2⟩;have hd1:=hc1.ext hx2;have hd2:=hc2.ext hx2;have hd3:=hc3.ext hx2;obtain⟨f1'',f2'',f3'',f4''⟩:=hd1.two;obtain⟨h1'',h2'',h3'',h4''⟩:=hd2.two;obtain⟨k1'',k2'',k3'',k4''⟩:=hd3.two))
 go_wp2_with fail
 refine iT (lM G G (hd3.two_set _ _)) G ?_
 exact lT hd3 ((iL hs'.out hn1.out ho1 (BV _ _ _ _)).ext hx2) (by first | omega | (simp;omega)) (hea.trans (he1.trans hx2))
theorem wJ (hx:Zi w s A n cap x)(hl:n≤68719476736):aQ aM 23 #[J s A n cap] w (zE (bN x 0) w):=by
 obtain⟨xs,hr,rfl⟩:=hx
 go_enter Tryz.func23,Tryz.ntmps23
 go_upto_region 1 with (fail)
 have hb1:=Bk.new w 24 (O s A n cap)
 obtain⟨wa,hwa⟩:∃wa,w.alloc (.cells #[.bool s,.slice A n cap] 24)=wa:=⟨_,rfl⟩
 rw [hwa]
 obtain⟨g,hg⟩:∃g,w.heap.size=g:=⟨_,rfl⟩
 rw [hg] at hb1⊢
 have hb1':Bk wa g 24 (O s A n cap):=by rw [←hwa];exact hb1
 have hea:Ext w wa:=by rw [←hwa];exact (Ext.refl w).alloc _
 clear hwa hg hb1
 obtain⟨f1,f2,f3,f4⟩:=hb1'.two
 go_wp2_with fail
 refine (DG (hr.ext hea) (by omega)).mono ?_
 rintro e w1 ⟨b,hb,rfl,hx1'⟩
 have hx1:=hea.trans hx1'
 obtain⟨f1',f2',f3',f4'⟩:=(hb1'.ext hx1').two
 by_cases h0:b=0
 ·subst h0
  have hz:nv xs=0:=sM.1 hb.out.symm
  have HZ:=Lib.hid hz
  clear hz
  go_wp2_with fail
  go_ret
  exact⟨0,(show _=_ by rw [HZ.out,KY];rfl),by omega,by omega,rfl,hx1⟩
 ·have bb:((b:Int)==0)=false:=by simp;omega
  have hz:0<nv xs:=Nat.pos_of_ne_zero (fun e=>h0 (by rw [hb.out,e];rfl))
  have HZ:=Lib.hid hz
  clear hz h0
  cases s
  ·go_wp2_with fail
   go_ret
   refine⟨1,?_,by omega,by omega,rfl,hx1⟩
   show _=_
   rw [mF,bN,if_neg (by omega),if_neg (by have:=HZ.out;omega)]
  ·go_wp2_with fail
   go_ret
   refine⟨-1,?_,by omega,by omega,rfl,hx1⟩
   show _=_
   rw [rP,bN,if_pos (by have:=HZ.out;omega)]
def vR (b:Bool)(w:a7)(e:dM)(w':a7):Prop:=e= .returned (.bool b)∧Ext w w'
theorem CM (hx:Rd w A n cap xs)(hl:n≤1099511627776)(hy:Rd w B n' cap' ys)(hl':n'≤1099511627776):aQ aM 32 #[AT A n cap,AT B n' cap'] w (vR (decide (xs=ys)) w):=by
 have hlx:=Lib.hid hx.len
 have hly:=Lib.hid hy.len
 by_cases hn:n=n'
 ·subst hn
  have h1:((n:Int) != (n:Int))=false:=by simp
  go_enter Tryz.func32,Tryz.ntmps32
  go_wp2_with fail
  go_loopw [5] (fun u wr=>∃i:Nat,i≤n∧u= v4 (i:Int)∧Hid (xs.take i=ys.take i)∧Ext w wr) (fun u wr=>n-(intOf u).toNat)
  case atStart=>exact⟨0,bJ _,rfl,rfl,Ext.refl w⟩
  case round=>
   obtain⟨i,hi,rfl,hv,hext⟩:=hrel
   by_cases h0:i<n
   ·obtain⟨a,p,rfl,hxk,hxb,hc⟩:=(hx.ext hext).get (i:=i) (by omega)
    obtain⟨b,q,rfl,hyk,hyb,hd⟩:=(hy.ext hext).get (i:=i) (by omega)
    by_cases hpq:p=q
    ·subst hpq
     have h2:((p:Int) != (p:Int))=false:=by simp
     go_wp2_with fail
     go_quiet (fail)
     go_wp2_with fail
     go_roundw
     case rel=>
      refine⟨i+1,by omega,by go_num,?_,(by repeat (first | exact Ext.refl _ | assumption | apply Ext.drewN | apply Ext.drew | apply Ext.alloc))⟩
      show _=_
      rw [rN xs i (by rw [hlx.out];omega) 0,rN ys i (by rw [hly.out];omega) 0,hv.out,hxk.out,hyk.out]
     case measure=>simp [intOf];omega
    ·have h2:((p:Int) != (q:Int))=true:=by simp;omega
     go_wp2_with fail
     go_quiet (fail)
     go_wp2_with fail
     go_ret
     have hne:decide (xs=ys)=false:=by
      refine decide_eq_false (fun e=>hpq ?_)
      rw [←hxk.out,←hyk.out,e]
     rw [hne]
     exact⟨rfl,(by repeat (first | exact Ext.refl _ | assumption | apply Ext.drewN | apply Ext.drew | apply Ext.alloc))⟩
   ·go_wp2_with fail
    go_ret
    have he:decide (xs=ys)=true:=by
     refine decide_eq_true ?_
     have h:=hv.out
     rwa [List.take_of_length_le (by rw [hlx.out];omega),List.take_of_length_le (by rw [hly.out];omega)] at h
    rw [he]
    exact⟨rfl,hext⟩
 ·have h1:((n:Int) != (n':Int))=true:=by simp;omega
  go_enter Tryz.func32,Tryz.ntmps32
  go_wp2_with fail
  go_ret
  have hne:decide (xs=ys)=false:=decide_eq_false (fun e=>hn (by rw [←hlx.out,←hly.out,e]))
  rw [hne]
  exact⟨rfl,Ext.refl w⟩
theorem Own.updT {s:Nat}(h:Own w base t s A n cap vs)(hb:Bk w g T us)(hT:t≠T)(e:Upd g w w'):Own w' base t s A n cap vs:=by
 refine h.upd e (fun a f o=>?_)
 rcases h with⟨h,_⟩ | ⟨k,cs,q,_,p,_⟩
 ·rw [h] at f;cases f
 ·rw [q] at f
  cases f
  simp only at o
  subst o
  unfold Bk at p hb
  rw [p] at hb
  injection hb with hb
  injection hb with h1 h2
  exact hT h2
theorem Zr.updT {z:Int}(h:Zr w base s A n cap z)(hb:Bk w g T us)(e:Upd g w w')(hT:36≠T:=by decide):Zr w' base s A n cap z:=
 ⟨h.sgn,h.len,h.own.updT hb hT e⟩
theorem Bk.updN (h:Bk w g T vs)(e:Upd g' w w')(hne:g≠g'):Bk w' g T vs:=h.upd e hne
theorem Bk.vN (h:Bk w g T vs)(e:Upd g' w w')(hne : g≠g' := by omega):Bk w' g T vs := h.updN e hne
theorem fQ (x:Int):ln (x.natAbs:Int)=ln x:=by unfold ln;rw [Int.natAbs_natCast]
theorem iY (h:x=y):cH .eql (bN x y) 0=some true:=by
 have e:bN x y=0:=kK.2 h
 rw [e];rfl
theorem fE (h:x≠y):cH .eql (bN x y) 0=some false:=by
 have e:¬bN x y=0:=fun e=>h (kK.1 e)
 simp only [cH,eF,beq_eq_false_iff_ne,ne_eq];exact e
theorem C0 (h:x≠y):cH .neq (bN x y) 0=some true:=by
 have e:¬bN x y=0:=fun e=>h (kK.1 e)
 simp only [cH,eF,bne_iff_ne,ne_eq];exact e
theorem C1 (h:x=y):cH .neq (bN x y) 0=some false:=by
 have e:bN x y=0:=kK.2 h
 rw [e];rfl
theorem tO (h:x<y):cH .lss (bN x y) 0=some true:=by
 have e:=oC.2 h
 simp only [cH,eF,decide_eq_true_eq];exact e
theorem pV (h:y≤x):cH .lss (bN x y) 0=some false:=by
 have e:¬bN x y<0:=fun e=>by have:=oC.1 e;omega
 simp only [cH,eF,decide_eq_false_iff_not];exact e
theorem L8 (h:y<x):cH .gtr (bN x y) 0=some true:=by
 have e:=x8.2 h
 simp only [cH,eF,decide_eq_true_eq];exact e
theorem L9 (h:x≤y):cH .gtr (bN x y) 0=some false:=by
 have e:¬0<bN x y:=fun e=>by have:=x8.1 e;omega
 simp only [cH,eF,decide_eq_false_iff_not];exact e
theorem LB (h:y≤x):cH .geq (bN x y) 0=some true:=by
 have e:¬bN x y<0:=fun e=>by have:=oC.1 e;omega
 simp only [cH,eF,decide_eq_true_eq];omega
theorem LC (h:x<y):cH .geq (bN x y) 0=some false:=by
 have e:=oC.2 h
 simp only [cH,eF,decide_eq_false_iff_not];omega
structure AggT (P:cC)(T:aU)(k:Nat):Prop where
 agg:∀w,(isAgg T).run P w= .ok true w
 size:∀w,(sizeOf T).run P w= .ok k w
theorem xC {p:aG}{v:aI}(h:w.cell? p=some v):(load p).run P w= .ok v w:=by
 simp only [load,Sem.run,h]
theorem x9 {p:aG}{v:aI}(h:w.cell? p=some u)(hf:w.frozen? p=false)(h1:v.oneCell'=true):(store p v).run P w= .ok () (w.setCell p v):=by
 rw [run_store P w p v .plain h1,h,hf];rfl
theorem xB {P:cC}{w:a7}{p:aG}:∀(vs:List aI) (i:Nat) (acc:Array aI),(∀j,j<vs.length→w.cell? (p.add (i+j))=some (vs.getD j undef))→
  (loadCellsFrom p i vs.length acc).run P w= .ok (acc++vs.toArray) w
 | [],i,acc,_=>by simp [loadCellsFrom]
 | v::vs,i,acc,h=>by
  have h0:=h 0 (by simp)
  simp only [eI,List.getD_cons_zero] at h0
  have ih:=xB (P:=P) (p:=p) vs (i+1) (acc.push v) (fun j hj=>by
   have:=h (j+1) (by simpa using hj)
   rw [show i+1+j=i+(j+1) by omega]
   simpa using this)
  show ((load (p.add i)>>=fun v=>loadCellsFrom p (i+1) vs.length (acc.push v):Sem (Array aI))).run P w=_
  have e:(load (p.add i)).run P w= .ok v w:=xC h0
  rw [dA,e]
  simp only [eW,ih]
  simp
theorem aW (hT:AggT P T k)(hb:Bk w g T' vs)(us:List aI)(hu:us.length=k)(hle:off+k≤vs.length)(he:(vs.drop off).take k=us):(loadVar T ⟨g,off,none⟩).run P w= .ok (.agg us.toArray) w:=by
 subst hu
 have f:=xB (P:=P) (w:=w) (p:=⟨g,off,none⟩) us 0 #[] (fun j hj=>by
  rw [eX,fL,hb.cell (by omega)]
  congr 1
  rw [←he]
  simp only [bE,jO,rC]
  rw [if_pos hj])
 unfold loadVar loadCells
 rw [dA,hT.agg w]
 simp only [eW,if_true,dA,hT.size w,f]
 simp
theorem bA {v:aI}(hT:∀w,(isAgg T).run P w= .ok false w)(hb:Bk w g T' vs)(hv:vs[i]?=some v):(loadVar T ⟨g,i,none⟩).run P w= .ok v w:=by
 have hi:i<vs.length:=(fD.1 hv).1
 have f:=hb.cell hi
 rw [bE,hv] at f
 unfold loadVar
 rw [dA,hT w]
 simp only [eW,zV,if_false]
 exact xC f
def gF (vs:List aI)(off:Nat)(us:List aI):List aI:=vs.take off++us++vs.drop (off+us.length)
theorem tK {P:cC}{g:Nat}{T:aU}:∀(us:List aI) (i off:Nat) (w:a7) (vs:List aI),Bk w g T vs→off+i+us.length≤vs.length→(∀u∈us,u.oneCell'=true)→
  ∃w',(storeCells ⟨g,off,none⟩ us i).run P w= .ok () w'∧Bk w' g T (gF vs (off+i) us)∧Upd g w w'∧w'.heap.size=w.heap.size
 | [],i,off,w,vs,hb,_,_=>⟨w,rfl,by simpa [gF] using hb,Upd.refl g w,rfl⟩
 | u::us,i,off,w,vs,hb,hle,h1=>by
  have hi:off+i<vs.length:=by simp at hle;omega
  have q:=hb.cell hi
  have hf:=hb.frozen (off+i)
  have h:=hb.set (off+i) u
  obtain⟨w',hr,f,o,hs⟩:=tK (P:=P) us (i+1) off (w.setCell ⟨g,off+i,none⟩ u) (vs.set (off+i) u) h (by simp at hle⊢;omega) (fun x hx=>h1 x (by simp [hx]))
  refine⟨w',?_,?_,((Upd.refl g w).setCell (off+i) u).trans o,by rw [hs];simp [qS]⟩
  ·show ((store ((⟨g,off,none⟩:aG).add i) u>>=fun _=>storeCells ⟨g,off,none⟩ us (i+1):Sem Unit)).run P w=_
   rw [fL,dA,x9 q hf (h1 u (by simp))]
   exact hr
  ·have e:gF (vs.set (off+i) u) (off+(i+1)) us=gF vs (off+i) (u::us):=by
    unfold gF
    have p:(vs.set (off+i) u).take (off+(i+1))=vs.take (off+i)++ [u]:=by
     rw [show off+(i+1)=off+i+1 by omega,rN _ _ (by simpa using hi) undef,List.take_set_of_le (aS _)]
     congr 2
     rw [bE,List.getElem?_set_self hi];rfl
    rw [p,List.drop_set_of_lt (by omega)]
    simp only [gD,List.append_assoc,pJ,List.nil_append]
    rw [show off+(i+1)+us.length=off+i+(us.length+1) by omega]
   rw [←e];exact f
theorem eV (hT:AggT P T k)(hk:us.length=k)(hb:Bk w g T' vs)(hle:off+k≤vs.length)(h1:us.all (·.oneCell')=true)(us':List aI)(he:gF vs off us=us'):∃w',(storeVar T ⟨g,off,none⟩ (.agg us.toArray)).run P w= .ok () w'∧Bk w' g T' us'∧Upd g w w'∧w'.heap.size=w.heap.size:=by
 subst hk
 obtain⟨w',hr,f,h,hs⟩:=tK (P:=P) us 0 off w vs hb (by omega) (by simpa [eY] using h1)
 rw [eI,he] at f
 refine⟨w',?_,f,h,hs⟩
 unfold storeVar
 rw [dA]
 show ((sizeOf T).run P w).andThen _=_
 rw [hT.size w]
 have e:(Value.agg us.toArray).cells=us.toArray:=rfl
 simp only [eW,e,vX,ne_eq,not_true,if_false]
 exact hr
theorem tG {Q:dQ→Act→a7→Prop}{l:Fr}(hw:dG ops l gd=some true){x y:d7}(hx:bY l x=some (no g off))(hy:bY l y=some (.agg us.toArray))(hT:AggT P T k)(hk:us.length=k)(hb:Bk w g T' vs)(hle:off+k≤vs.length)(h1:us.all (·.oneCell')=true)(us':List aI)(he:gF vs off us=us')(h:∀w',Bk w' g T' us'→Upd g w w'→w'.heap.size=w.heap.size→wl P ops Q n rest l w'):wl P ops Q n (⟨none,.store T x y,ty,pos,af,gd⟩::rest) l w:=by
 obtain⟨w',hr,f,o,hs⟩:=eV (P:=P) hT hk hb hle h1 us' he
 exact rI hw (p:=⟨g,off,none⟩) hx hy (w':=w') hr (h w' f o hs)
theorem eJ {Q:dQ→Act→a7→Prop}{l:Fr}(hw:dG ops l gd=some true){x y:d7}{v:aI}(hx:bY l x=some (no g off))(hy:bY l y=some v)(hT:∀w,(sizeOf T).run P w= .ok 1 w)(hv:v.cells= #[v])(hb:Bk w g T' vs)(hle:off<vs.length)(h1:v.oneCell'=true)(us':List aI)(he:vs.set off v=us')(h:∀w',Bk w' g T' us'→Upd g w w'→w'.heap.size=w.heap.size→wl P ops Q n rest l w'):wl P ops Q n (⟨none,.store T x y,ty,pos,af,gd⟩::rest) l w:=by
 have f:=hb.set off v
 rw [he] at f
 refine rI hw (p:=⟨g,off,none⟩) hx hy (w':=w.setCell ⟨g,off,none⟩ v) ?_ (h _ f ((Upd.refl g w).setCell off v) (by simp [qS]))
 unfold storeVar
 rw [dA]
 show ((sizeOf T).run P w).andThen _=_
 rw [hT w]
 simp only [eW,hv,vX,gD,List.length_nil,ne_eq,not_true,eX,if_false]
 show ((store ((⟨g,off,none⟩:aG).add 0) v>>=fun _=>storeCells ⟨g,off,none⟩ [] (0+1):Sem Unit)).run P w=_
 rw [fL,eI,dA,x9 (hb.cell hle) (hb.frozen off) h1]
 rfl
section
variable {P:cC}{Q:dQ→Act→a7→Prop}{n:Nat}{l:Fr}{w:a7}{ops:Array aZ}{rest:List aZ}{d:Nat}{ty:aU}{pos:String}{af:Array fO}{gd:Option (Nat×Bool)}
theorem LJ {s:Nat}{a:aG}{k:jP}{i:Int}(hT:P.underlying t=some (.slice e))(hs:∀w,(sizeOf e).run P w= .ok s w)(h0:0≤i)(h1:i<m):(Instr.indexAt t (AT (some a) m c) (.int k i)).run P w= .ok (.pointer (some (a.add (i.toNat*s)))) w:=by
 have f:(underlying t).run P w= .ok (.slice e) w:=qR hT w
 unfold Instr.indexAt
 simp only [asIntOf,dA,gT,eW,f]
 rw [if_pos ⟨h0,h1⟩]
 simp only [dA,hs w,eW,gT]
def D0 (v:Option aI)(k:Nat)(dflt:Nat):Prop:=(v=none∧k=dflt)∨v=some (v4 (k:Int))
theorem tR {k:BoundsCode}(h:i≤cap):(Instr.sliceBound (v4 (i:Int)) cap k).run P w= .ok i w:=by
 unfold Instr.sliceBound
 simp only [asIntOf,dA,gT,eW]
 rw [if_pos ⟨by omega,by omega⟩]
 rfl
theorem LH {s lo:Nat}(hT:P.underlying t=some (.slice e))(hs:∀w,(sizeOf e).run P w= .ok s w)(h1:D0 low lo 0)(h2:D0 high hi m)(h3:lo≤hi)(h4:hi≤c):(Instr.sliceAt t (AT A m c) low high none).run P w= .ok (AT (if c=lo then A else A.map (·.add (lo*s))) (hi-lo) (c-lo)) w:=by
 have f:(underlying t).run P w= .ok (.slice e) w:=qR hT w
 have hb:(Instr.sliceBounds true m c low high none).run P w= .ok (lo,hi,c) w:=by
  unfold Instr.sliceBounds
  rcases h1 with⟨rfl,rfl⟩ | rfl <;> rcases h2 with⟨rfl,rfl⟩ | rfl
  ·simp only [dA,gT,eW]
  ·simp only [dA,gT,eW,tR h4,if_true]
  ·simp only [dA,gT,eW,Option.isSome,tR h3]
  ·simp only [dA,gT,eW,Option.isSome,tR h4,tR h3,if_true]
 unfold Instr.sliceAt
 simp only [dA,f,eW]
 unfold Instr.slice
 simp only [dA,f,eW,hb,hs w,gT]
theorem pN (hw:dG ops l gd=some true){x:d7}{s lo:Nat}(hx:bY l x=some (AT A m c))(hT:P.underlying t=some (.slice e))(hs:∀w,(sizeOf e).run P w= .ok s w)(h1:match lo' with | none=>lo=0 | some y=>bY l y=some (v4 (lo:Int)))(h2:match hi' with | none=>hi=m | some y=>bY l y=some (v4 (hi:Int)))(h3:lo≤hi)(h4:hi≤c){v:aI}(hv:nY (if c=lo then A else A.map (·.add (lo*s))) (hi-lo) (c-lo)=v)(hn:d<n)(h:wl P ops Q n rest ((d,v)::l) w):wl P ops Q n (⟨some d,.slice t x lo' hi' none,ty,pos,af,gd⟩::rest) l w:=
 gU hw hn (fun a' f=>by
  have e:(Instr.sliceAt t (a'.eval x) (lo'.map a'.eval) (hi'.map a'.eval) (Option.map a'.eval none)).run P w= .ok v w:=by
   rw [f.ev hx,←hv]
   refine LH hT hs ?_ ?_ h3 h4
   ·cases lo' with
    | none=>exact bS ⟨rfl,h1⟩
    | some y=>exact bW (by show some (a'.eval y)=_;rw [f.ev h1])
   ·cases hi' with
    | none=>exact bS ⟨rfl,h2⟩
    | some y=>exact bW (by show some (a'.eval y)=_;rw [f.ev h2])
  show ((Instr.sliceAt t (a'.eval x) (lo'.map a'.eval) (hi'.map a'.eval) (Option.map a'.eval none)>>=fun r=>pure (jA r):Sem Next)).run P w=_
  rw [dA,e];rfl) h
theorem q8 {p:aG}(hT:AggT P T k)(us:List aI)(hu:us.length=k)(hc:∀j,j<us.length→w.cell? (p.add j)=some (us.getD j undef)):(loadVar T p).run P w= .ok (.agg us.toArray) w:=by
 subst hu
 have f:=xB (P:=P) (w:=w) (p:=p) us 0 #[] (fun j hj=>by rw [eX];exact hc j hj)
 unfold loadVar loadCells
 rw [dA,hT.agg w]
 simp only [eW,if_true,dA,hT.size w,f]
 simp
theorem dC {p:aG}{v:aI}(hT:∀w,(isAgg T).run P w= .ok false w)(hc:w.cell? p=some v):(loadVar T p).run P w= .ok v w:=by
 unfold loadVar
 rw [dA,hT w]
 simp only [eW,zV,if_false]
 exact xC hc
end
theorem T9 (a:aG):a.add 0=a:=by simp [lJ]
theorem yC {a b:Int}(h:b≤a:=by omega):cH .geq a b=some true:=by simp only [cH,eF,decide_eq_true_eq];omega
theorem oN {a b:Int}(h:a<b:=by omega):cH .geq a b=some false:=by simp only [cH,eF,decide_eq_false_iff_not];omega
theorem uF {a b:Int}(h:a<b):cH .lss a b=some true:=by simp only [cH,eF,decide_eq_true_eq];omega
theorem uG {a b:Int}(h:b≤a:=by omega):cH .lss a b=some false:=by simp only [cH,eF,decide_eq_false_iff_not];omega
theorem y8 {a b:Int}(h:b<a:=by omega):cH .gtr a b=some true:=by simp only [cH,eF,decide_eq_true_eq];omega
theorem y9 {a b:Int}(h:a≤b:=by omega):cH .gtr a b=some false:=by simp only [cH,eF,decide_eq_false_iff_not];omega
theorem NT {a b:Int}(h:a≤b):cH .leq a b=some true:=by simp only [cH,eF,decide_eq_true_eq];omega
theorem NU {a b:Int}(h:b<a):cH .leq a b=some false:=by simp only [cH,eF,decide_eq_false_iff_not];omega
theorem fS {a b:Int}(h:a=b):cH .eql a b=some true:=by subst h;simp [cH]
theorem fT {a b:Int}(h:a≠b):cH .eql a b=some false:=by simp only [cH,eF,beq_eq_false_iff_ne,ne_eq];exact h
theorem u9 {a b:Int}(h:a≠b):cH .neq a b=some true:=by simp only [cH,eF,bne_iff_ne,ne_eq];exact h
theorem uA {a b:Int}(h:a=b):cH .neq a b=some false:=by subst h;simp [cH]
theorem GW {a b c:Int}(h:a+b=c)(h1: -9223372036854775808≤c)(h2:c≤9223372036854775807):eT .add .i64 a b=some c:=by
 simp only [eT,eF];rw [h];exact IntWalk.i64_in _ ⟨h1,h2⟩
theorem kB {a b c:Int}(h:a-b=c)(h1: -9223372036854775808≤c:=by omega)(h2:c≤9223372036854775807:=by omega):eT .sub .i64 a b=some c:=by
 simp only [eT,eF];rw [h];exact IntWalk.i64_in _ ⟨h1,h2⟩
theorem GV {a b c:Int}(h:a*b=c)(h1: -9223372036854775808≤c)(h2:c≤9223372036854775807):eT .mul .i64 a b=some c:=by
 simp only [eT,eF];rw [h];exact IntWalk.i64_in _ ⟨h1,h2⟩
theorem T0 {a b c:Int}(hb:b≠0)(h:a.tdiv b=c)(h1: -9223372036854775808≤c)(h2:c≤9223372036854775807):eT .quo .i64 a b=some c:=by
 simp only [eT];rw [if_neg hb,h,eF];exact IntWalk.i64_in _ ⟨h1,h2⟩
theorem Rd.at (h:Rd w A n c xs)(hi:i<n):∃p,A.map (·.add (i*1))=some p∧w.cell? p=some (AI ((xs.getD i 0:Nat):Int))∧xs.getD i 0≤18446744073709551615:=by
 obtain⟨a,x,rfl,f,hb,o⟩:=h.get hi
 refine⟨a.add i,by rw [eG];rfl,?_,by rw [f.out];exact hb⟩
 rw [f.out];exact o
theorem Rd.updL (h:Rd w A n c xs)(e:Upd g w w')(hne:0<c→∀a,A=some a→a.block≠g):Rd w' A n c xs:=
 ⟨⟨h.rv.len,h.rv.le,h.rv.max,fun i hi=>by
  obtain⟨a,f,o⟩:=h.rv.get i hi
  exact⟨a,f,e.cell o (by rw [sL];exact hne (by have:=h.rv.le;omega) a f)⟩,fun a f o=>d4 (h.rv.blk a f o) e.size⟩,h.wf⟩
theorem dN (g i:Nat):(some (⟨g,0,none⟩:aG)).map (·.add (i*1))=some ⟨g,i,none⟩:=by
 rw [eG]
 show some ((⟨g,0,none⟩:aG).add i)=_
 rw [fL,eX]
section
variable {P:cC}{Q:dQ→Act→a7→Prop}{n:Nat}{l:Fr}{w:a7}{ops:Array aZ}{rest:List aZ}{d:Nat}{op:Op}{ty:aU}{pos:String}{af:Array fO}{gd:Option (Nat×Bool)}
theorem C7 {s:Nat}{k:jP}{i:Int}{p:aG}(hT:P.underlying t=some (.slice e))(hs:∀w,(sizeOf e).run P w= .ok s w)(hi:i=(j:Int))(hj:j<m)(hp:A.map (·.add (j*s))=some p):(Instr.indexAt t (AT A m c) (.int k i)).run P w= .ok (.pointer (some p)) w:=by
 subst hi
 cases A with
 | none=>cases hp
 | some a=>
  have h:=LJ (P:=P) (w:=w) (t:=t) (e:=e) (s:=s) (m:=m) (c:=c) (a:=a) (k:=k) (i:=(j:Int)) hT hs (by omega) (by omega)
  rw [h]
  rw [jQ]
  injection hp with hp
  rw [←hp]
theorem bI (hw:dG ops l gd=some true){x y:d7}{s:Nat}{k:jP}{i:Int}(hx:bY l x=some (AT A m c))(hy:bY l y=some (.int k i))(hT:P.underlying t=some (.slice e))(hs:∀w,(sizeOf e).run P w= .ok s w)(j:Nat)(hi:i=(j:Int))(p:aG)(hp:A.map (·.add (j*s))=some p)(h:wl P ops Q n rest ((d,.pointer (some p))::l) w)(hj:j<m:=by omega)(hn:d<n:=by decide):wl P ops Q n (⟨some d,.indexAddr t x y,ty,pos,af,gd⟩::rest) l w:=
 gU hw hn (fun a' f=>by
  have e:(Instr.indexAt t (a'.eval x) (a'.eval y)).run P w= .ok (.pointer (some p)) w:=by rw [f.ev hx,f.ev hy];exact C7 hT hs hi hj hp
  show ((Instr.indexAt t (a'.eval x) (a'.eval y)>>=fun r=>pure (jA r):Sem Next)).run P w=_
  rw [dA,e];rfl) h
theorem gN {x y:d7}{s:Nat}{k:jP}{i:Int}(hx:bY l x=some (AT A m c))(hy:bY l y=some (.int k i))(hT:P.underlying t=some (.slice e))(hs:∀w,(sizeOf e).run P w= .ok s w)(j:Nat)(hi:i=(j:Int))(p:aG)(hp:A.map (·.add (j*s))=some p)(hj:j<m:=by omega):i5 P n l ⟨dst,.indexAddr t x y,ty,pos,af,gd⟩ w (.value (.pointer (some p))) w:=fun a' f=>by
 have e:(Instr.indexAt t (a'.eval x) (a'.eval y)).run P w= .ok (.pointer (some p)) w:=by rw [f.ev hx,f.ev hy];exact C7 hT hs hi hj hp
 show ((Instr.indexAt t (a'.eval x) (a'.eval y)>>=fun r=>pure (jA r):Sem Next)).run P w=_
 rw [dA,e];rfl
theorem nE {x y:d7}{k:jP}{a b:Int}(hx:bY l x=some (.int k a))(hy:bY l y=some (.int k b))(c:Bool)(hc:cH o a b=some c):i5 P n l ⟨dst,.binOp o t x y t',ty,pos,af,gd⟩ w (.value (.bool c)) w:=fun a' f=>by
 have e:((do eqGuard o t x y (a'.eval x) (a'.eval y);binOp o t (a'.eval x) (a'.eval y)):Sem aI).run P w= .ok (.bool c) w:=by
  rw [f.ev hx,f.ev hy];exact C8 hc
 show ((((do eqGuard o t x y (a'.eval x) (a'.eval y);binOp o t (a'.eval x) (a'.eval y)):Sem aI)>>=fun r=>pure (jA r)):Sem Next).run P w=_
 rw [dA,e];rfl
theorem kM {x y:d7}{k:jP}{a b:Int}(hx:bY l x=some (.int k a))(hy:bY l y=some (.int k b))(c:Int)(hc:eT o k a b=some c):i5 P n l ⟨dst,.binOp o t x y t',ty,pos,af,gd⟩ w (.value (.int k c)) w:=fun a' f=>by
 have e:((do eqGuard o t x y (a'.eval x) (a'.eval y);binOp o t (a'.eval x) (a'.eval y)):Sem aI).run P w= .ok (.int k c) w:=by
  rw [f.ev hx,f.ev hy];exact C9 hc
 show ((((do eqGuard o t x y (a'.eval x) (a'.eval y);binOp o t (a'.eval x) (a'.eval y)):Sem aI)>>=fun r=>pure (jA r)):Sem Next).run P w=_
 rw [dA,e];rfl
theorem tQ {v:aI}(hT:∀w,(sizeOf T).run P w= .ok 1 w)(hv:v.cells= #[v])(hb:Bk w g T' vs)(hle:off<vs.length)(h1:v.oneCell'=true)(us':List aI)(he:vs.set off v=us'):∃w',(storeVar T ⟨g,off,none⟩ v).run P w= .ok () w'∧Bk w' g T' us'∧Upd g w w'∧w'.heap.size=w.heap.size:=by
 have f:=hb.set off v
 rw [he] at f
 refine⟨w.setCell ⟨g,off,none⟩ v,?_,f,(Upd.refl g w).setCell off v,by simp [qS]⟩
 unfold storeVar
 rw [dA]
 show ((sizeOf T).run P w).andThen _=_
 rw [hT w]
 simp only [eW,hv,vX,gD,List.length_nil,ne_eq,not_true,eX,if_false]
 show ((store ((⟨g,off,none⟩:aG).add 0) v>>=fun _=>storeCells ⟨g,off,none⟩ [] (0+1):Sem Unit)).run P w=_
 rw [fL,eI,dA,x9 (hb.cell hle) (hb.frozen off) h1]
 rfl
theorem mA {z:aI}{x y:d7}(hw:dG ops l gd=some true){i:Int}(hx:bY l x=some (v4 i))(hy:bY l y=some (v4 i))(hi:i=(k:Int))(ht:P.underlying t=some (.slice e))(hinfo:(P.info? e).map (fun i=>(i.zero,i.size,i.bytes))=some (some z,1,bytes))(hz:z.cells= #[z])(h:∀g w',w.heap.size=g→Bk w' g e (dL k z)→Ext w w'→wl P ops Q n rest ((d,AT (some ⟨g,0,none⟩) k k)::l) w')(hby:bytes≤64:=by decide)(hk:k≤1099511627776:=by omega)(hn:d<n:=by decide):wl P ops Q n (⟨some d,.makeSlice t x y,ty,pos,af,gd⟩::rest) l w:=by
 subst hi
 have hm:=jV (P:=P) ht hinfo hz hby (k:Int) (by omega) (by omega) w
 rw [jQ] at hm
 refine gU hw hn (fun a' f=>?_) (h _ (w.alloc (.cells (zc z k) e)) G (Bk.new' _ _ _) ((Ext.refl w).alloc _))
 have e':(o2 t (a'.eval x) (a'.eval y)).run P w= .ok (AT (some ⟨w.heap.size,0,none⟩) k k) (w.alloc (.cells (zc z k) e)):=by rw [f.ev hx,f.ev hy];exact hm
 show ((o2 t (a'.eval x) (a'.eval y)>>=fun r=>pure (jA r):Sem Next)).run P w=_
 rw [dA,e'];rfl
end
theorem gY (hT:∀w,(isAgg T).run P w= .ok false w)(hb:Bk w g T' (l.map aY))(hi:i<l.length):(loadVar T ⟨g,i,none⟩).run P w= .ok (AI ((l.getD i 0:Nat):Int)) w:=by
 refine bA hT hb ?_
 simp [bE,cA hi]
theorem iF {x:Nat}(h:l.length=N):(l.set i x).length=N:=by rw [List.length_set];exact h
theorem gQ {f:Nat→aI}(h:i<l.length):i<(l.map f).length:=by rw [List.length_map];exact h
theorem cG {A B:Int}(ha:A=(a:Int))(hb:B=(b:Int))(h:a<b:=by omega):cH .lss A B=some true:=by subst ha hb;exact uF (by omega)
theorem cL {A B:Int}(ha:A=(a:Int))(hb:B=(b:Int))(h:b≤a:=by omega):cH .lss A B=some false:=by subst ha hb;exact uG
theorem SG {A B:Int}(ha:A=(a:Int))(hb:B=(b:Int))(h:a≤b):cH .leq A B=some true:=by subst ha hb;exact NT (by omega)
theorem SH {A B:Int}(ha:A=(a:Int))(hb:B=(b:Int))(h:b<a):cH .leq A B=some false:=by subst ha hb;exact NU (by omega)
theorem nT {A B:Int}(ha:A=(a:Int))(hb:B=(b:Int))(h:b<a:=by omega):cH .gtr A B=some true:=by subst ha hb;exact y8
theorem nU {A B:Int}(ha:A=(a:Int))(hb:B=(b:Int))(h:a≤b:=by omega):cH .gtr A B=some false:=by subst ha hb;exact y9
theorem qJ {A B:Int}(ha:A=(a:Int))(hb:B=(b:Int))(h:b≤a:=by omega):cH .geq A B=some true:=by subst ha hb;exact yC
theorem GL {A B:Int}(ha:A=(a:Int))(hb:B=(b:Int))(h:a<b):cH .geq A B=some false:=by subst ha hb;exact oN
theorem mR {A B:Int}(ha:A=(a:Int))(hb:B=(b:Int))(h:a=b:=by omega):cH .eql A B=some true:=by subst ha hb;exact fS (by omega)
theorem nV {A B:Int}(ha:A=(a:Int))(hb:B=(b:Int))(h:a≠b:=by omega):cH .eql A B=some false:=by subst ha hb;exact fT (by omega)
theorem vA {A B:Int}(ha:A=(a:Int))(hb:B=(b:Int))(h:a≠b:=by omega):cH .neq A B=some true:=by subst ha hb;exact u9 (by omega)
theorem iI {A B:Int}(ha:A=(a:Int))(hb:B=(b:Int))(h:a=b:=by omega):cH .neq A B=some false:=by subst ha hb;exact uA (by omega)
theorem gS {A B:Int}(ha:A=(a:Int))(hb:B=(b:Int))(h:a+b≤18446744073709551615:=by omega):eT .add .u64 A B=some ((a+b:Nat):Int):=by
 subst ha hb;simp only [eT,eF];rw [←Int.natCast_add];exact IntWalk.u64_in _ ⟨by omega,by omega⟩
theorem vF {A B:Int}(ha:A=(a:Int))(hb:B=(b:Int))(h:b≤a:=by omega)(h2:a≤18446744073709551615:=by omega):eT .sub .u64 A B=some ((a-b:Nat):Int):=by
 subst ha hb;simp only [eT,eF];rw [show (a:Int)-(b:Int)=((a-b:Nat):Int) by omega];exact IntWalk.u64_in _ ⟨by omega,by omega⟩
theorem mS {A B:Int}(ha:A=(a:Int))(hb:B=(b:Int))(h:a*b≤18446744073709551615:=by omega):eT .mul .u64 A B=some ((a*b:Nat):Int):=by
 subst ha hb;simp only [eT,eF];rw [←jR];exact IntWalk.u64_in _ ⟨by omega,by omega⟩
theorem j6 {A B:Int}(ha:A=(a:Int))(hb:B=(b:Int))(h:b≠0:=by omega)(h2:a≤18446744073709551615:=by omega):eT .quo .u64 A B=some ((a/b:Nat):Int):=by
 subst ha hb
 have e:((a:Int)).tdiv (b:Int)=((a/b:Nat):Int):=rfl
 have p:a/b≤a:=i8 a b
 have o:(0:Int)≤((a/b:Nat):Int):=Int.natCast_nonneg _
 have f:((a/b:Nat):Int)≤(a:Int):=Int.ofNat_le.2 p
 simp only [eT];rw [if_neg (by omega),e,eF]
 generalize ((a/b:Nat):Int)=q at o f
 exact IntWalk.u64_in _ ⟨by omega,by omega⟩
theorem jL {k:jP}{A B:Int}(ha:A=(a:Int))(hb:B=(b:Int))(h:b≠0:=by omega):eT .rem k A B=some ((a%b:Nat):Int):=by
 subst ha hb
 have e:((a:Int)).tmod (b:Int)=((a%b:Nat):Int):=rfl
 simp only [eT];rw [if_neg (by omega),e]
theorem bK {A B:Int}(ha:A=(a:Int))(hb:B=(b:Int))(h:a+b≤9223372036854775807:=by omega):eT .add .i64 A B=some ((a+b:Nat):Int):=by
 subst ha hb;exact GW (by omega) (by omega) (by omega)
theorem kC {A B:Int}(ha:A=(a:Int))(hb:B=(b:Int))(h:b≤a:=by omega)(h2:a≤9223372036854775807:=by omega):eT .sub .i64 A B=some ((a-b:Nat):Int):=by
 subst ha hb;exact kB (by omega)
theorem vI {A B:Int}(ha:A=(a:Int))(hb:B=(b:Int))(h:a*b≤9223372036854775807:=by omega):eT .mul .i64 A B=some ((a*b:Nat):Int):=by
 subst ha hb;exact GV (by rw [←jR]) (by omega) (by omega)
theorem oW {A B:Int}(ha:A=(a:Int))(hb:B=(b:Int))(h:b≠0:=by omega)(h2:a≤9223372036854775807:=by omega):eT .quo .i64 A B=some ((a/b:Nat):Int):=by
 subst ha hb
 have p:a/b≤a:=i8 a b
 have o:(0:Int)≤((a/b:Nat):Int):=Int.natCast_nonneg _
 have f:((a/b:Nat):Int)≤(a:Int):=Int.ofNat_le.2 p
 refine T0 (by omega) G ?_ ?_
 ·show _≤((a/b:Nat):Int)
  generalize ((a/b:Nat):Int)=q at o f
  omega
 ·show ((a/b:Nat):Int)≤_
  generalize ((a/b:Nat):Int)=q at o f
  omega
theorem bL (w:a7):(sizeOf 36).run aM w= .ok 1 w:=by kernel_rfl
theorem d6 (w:a7):(isAgg 36).run aM w= .ok false w:=by kernel_rfl
theorem bT:Tryz.prog.underlying 22=some (.slice 36):=Tryz.underlying22
theorem LL {a b c d:aI}{s s' u:Tmp}(hf:fn.results= #[.cell s 24,.cell s' 24,.tmp u])(hs:tmps.getD s undef= no g 0)(hs':tmps.getD s' undef= no g' 0){v:aI}(hu:tmps.getD u undef=v)(h:Bk w g t [a,b])(h':Bk w g' t' [c,d]):(results fn tmps).run aM w= .ok (.tuple #[.agg #[a,b],.agg #[c,d],v]) w:=by
 obtain⟨h1,h2,_,_⟩:=h.two
 obtain⟨h3,h4,_,_⟩:=h'.two
 have hs2:tmps[s]?.getD undef= no g 0:=by simpa using hs
 have hs3:tmps[s']?.getD undef= no g' 0:=by simpa using hs'
 have hu2:tmps[u]?.getD undef=v:=by simpa using hu
 simp [results,hf,hs2,hs3,hu2,loadVar,loadCells,loadCellsFrom,go_sem,h1,h2,h3,h4]
theorem Bk.two_far {l:List aI}(h:Bk w g t l)(hne:g≠g')(u v:aI):Bk ((w.setCell ⟨g',0,none⟩ u).setCell ⟨g',1,none⟩ v) g t l:=(h.far (p:=⟨g',0,none⟩) hne u).far (p:=⟨g',1,none⟩) hne v
theorem AC {t:Bool}(hx:Zi w s A n cap x)(hl:n≤274877906944)(hy:Zi w t B m cap' y)(hl':m≤274877906944):aQ aM 60 #[J s A n cap,J t B m cap'] w (kZ w (x+y)):=by
 obtain⟨xs,hr,rfl⟩:=hx
 obtain⟨ys,hq,rfl⟩:=hy
 go_enter Tryz.func60,Tryz.ntmps60
 go_upto_region 1 with (fail)
 obtain⟨g,g2,g3,wa,hg3,hg2,hg,hwa,hb1,hb2,hb3,hea,l12,l23,l3,n12,n21,n13,n31,n23,n32⟩:=vC w 24 24 24 (.bool s) (AT A n cap) (.bool t) (AT B m cap') (BY) (AT none 0 0)
 rw [hg3,hg2,hg,hwa]
 have hgw:w.heap.size≤g:=Nat.le_of_eq hg
 clear hwa hg hg2 hg3
 obtain⟨f1,f2,f3,f4⟩:=hb1.two
 obtain⟨h1,h2,h3,h4⟩:=hb2.two
 obtain⟨k1,k2,k3,k4⟩:=hb3.two
 by_cases hst:s=t
 ·have bs:(s==t)=true:=by rw [hst];cases t <;> rfl
  go_upto_region 2 with (fail)
  go_region_held3 (fun w'=>w'.cell? ⟨g,0,none⟩=some (.bool s)∧w'.cell? ⟨g,1,none⟩=some (AT A n cap)∧w'.cell? ⟨g2,0,none⟩=some (.bool t)∧w'.cell? ⟨g2,1,none⟩=some (AT B m cap')) (go_keep)
   (first
   | (go_at_call 89;refine (MP (hr.ext (by repeat (first | exact Ext.refl _ | assumption | apply Ext.drewN | apply Ext.drew | apply Ext.alloc))) (by omega) (hq.ext (by repeat (first | exact Ext.refl _ | assumption | apply Ext.drewN | apply Ext.drew | apply Ext.alloc))) (by omega)).mono ?_;rintro e w1 ⟨A1,n1,c1,rfl,hn1,hr1,ho1,hx1⟩;have he1:Ext wa w1:=Ext.trans (by repeat (first | exact Ext.refl _ | assumption | apply Ext.drewN | apply Ext.drew | apply Ext.alloc)) hx1;have hb1:=hb1.ext he1;have hb2:=hb2.ext he1;have hb3:=hb3.ext he1;obtain⟨f1,f2,f3,f4⟩:=hb1.two;obtain⟨h1,h2,h3,h4⟩:=hb2.two;obtain⟨k1,k2,k3,k4⟩:=hb3.two)
   | (go_at_call 57;refine (kR hn1.out).mono ?_;rintro e w2 ⟨s',rfl,hs',hx2⟩;have hd1:=hb1.ext hx2;have hd2:=hb2.ext hx2;have hd3:=hb3.ext hx2;obtain⟨f1,f2,f3,f4⟩:=hd1.two;obtain⟨h1,h2,h3,h4⟩:=hd2.two;obtain⟨k1,k2,k3,k4⟩:=hd3.two))
  go_wp2_with fail
  refine iT (lM G G (hd3.two_set _ _)) G ?_
  exact lT hd3 ((iL hs'.out hn1.out ho1 (by rw [x7,hst])).ext hx2) (by first | omega | (simp;omega)) (hea.trans (he1.trans hx2))
 ·have bs:(s==t)=false:=by cases s <;> cases t <;> simp_all
  have ht:Hid (t= !s):=by show _=_;cases s <;> cases t <;> simp_all
  clear hst
  go_wp2_with fail
  refine (uC (hr.ext hea) (hq.ext hea)).mono ?_
  rintro e w1 ⟨c,hc,hcl,hch,rfl,hx1⟩
  have hb1:=hb1.ext hx1
  have hb2:=hb2.ext hx1
  have hb3:=hb3.ext hx1
  have he1:=hea.trans hx1
  have hsz:=hx1.size
  clear f1 f2 f3 f4 h1 h2 h3 h4 k1 k2 k3 k4
  obtain⟨f1,f2,f3,f4⟩:=hb1.two
  obtain⟨h1,h2,h3,h4⟩:=hb2.two
  by_cases hlt:c<0
  ·have hle:nv xs≤nv ys:=by rw [hc.out] at hlt;exact Nat.le_of_lt (mP.1 hlt)
   have HLE:=Lib.hid hle
   clear hle
   go_upto_region 5 with (fail)
   obtain⟨wb,hwb⟩:∃wb,(((w1.setCell ⟨g,0,none⟩ (.bool t)).setCell ⟨g,1,none⟩ (.slice B m cap')).setCell ⟨g2,0,none⟩ (.bool s)).setCell ⟨g2,1,none⟩ (.slice A n cap)=wb:=⟨_,rfl⟩
   rw [hwb]
   have hd1:Bk wb g 24 (O t B m cap'):=by rw [←hwb];exact (hb1.two_set _ _).two_far n12 _ _
   have hd2:Bk wb g2 24 (O s A n cap):=by rw [←hwb];exact (hb2.two_far n21 _ _).two_set _ _
   have hd3:Bk wb g3 24 (O false none 0 0):=by rw [←hwb];exact (hb3.two_far n31 _ _).two_far n32 _ _
   have heb:Ext w wb:=by
    rw [←hwb]
    exact (Upd.two _ _).ext ((Upd.two _ _).ext he1 hgw) (by omega)
   have hszb:wb.heap.size=w1.heap.size:=by rw [←hwb];simp [qS]
   clear hwb f1 f2 f3 f4 h1 h2 h3 h4
   obtain⟨f1,f2,f3,f4⟩:=hd1.two
   obtain⟨h1,h2,h3,h4⟩:=hd2.two
   go_wp2_with fail
   refine (DE (hq.ext heb) (by omega) (hr.ext heb) (by omega) HLE.out).mono ?_
   rintro e w2 ⟨A2,n2,c2,rfl,hn2,hr2,ho2,hx2⟩
   obtain⟨f1,f2,f3,f4⟩:=(hd1.ext hx2).two
   have hd3:=hd3.ext hx2
   go_wp2_with fail
   refine (kR hn2.out).mono ?_
   rintro e w3 ⟨s',rfl,hs',hx3⟩
   have hd3:=hd3.ext hx3
   obtain⟨k1,k2,k3,k4⟩:=hd3.two
   go_wp2_with fail
   refine iT (lM G G (hd3.two_set _ _)) G ?_
   exact lT hd3 ((iL hs'.out hn2.out ho2 (by rw [pT HLE.out,ht.out,Bool.not_not,Int.add_comm])).ext hx3) (by omega) (heb.trans (hx2.trans hx3))
  ·have hle:nv ys≤nv xs:=by rw [hc.out] at hlt;exact qX (fun h=>hlt (mP.2 h))
   have HLE:=Lib.hid hle
   clear hle
   go_wp2_with fail
   refine (DE (hr.ext he1) (by omega) (hq.ext he1) (by omega) HLE.out).mono ?_
   rintro e w2 ⟨A2,n2,c2,rfl,hn2,hr2,ho2,hx2⟩
   obtain⟨f1,f2,f3,f4⟩:=(hb1.ext hx2).two
   have hd3:=hb3.ext hx2
   go_wp2_with fail
   refine (kR hn2.out).mono ?_
   rintro e w3 ⟨s',rfl,hs',hx3⟩
   have hd3:=hd3.ext hx3
   obtain⟨k1,k2,k3,k4⟩:=hd3.two
   go_wp2_with fail
   refine iT (lM G G (hd3.two_set _ _)) G ?_
   exact lT hd3 ((iL hs'.out hn2.out ho2 (by rw [pT HLE.out,ht.out])).ext hx3) (by omega) (he1.trans (hx2.trans hx3))
theorem IO {t:Bool}(hx:Zi w s A n cap x)(hl:n≤274877906944)(hy:Zi w t B m cap' y)(hl':m≤274877906944):aQ aM 27 #[J s A n cap,J t B m cap'] w (kZ w (x-y)):=by
 go_enter Tryz.func27,Tryz.ntmps27
 go_upto_region 1 with (fail)
 obtain⟨g,g2,g3,wa,hg3,hg2,hg,hwa,hb1,hb2,hb3,hea,l12,l23,l3,n12,n21,n13,n31,n23,n32⟩:=vC w 24 24 24 (.bool s) (AT A n cap) (.bool t) (AT B m cap') (BY) (AT none 0 0)
 rw [hg3,hg2,hg,hwa]
 have hgw:w.heap.size≤g:=Nat.le_of_eq hg
 clear hwa hg hg2 hg3
 obtain⟨f1,f2,f3,f4⟩:=hb1.two
 obtain⟨h1,h2,h3,h4⟩:=hb2.two
 obtain⟨k1,k2,k3,k4⟩:=hb3.two
 go_wp2_with fail
 refine (AC (hx.ext hea) hl (hy.not.ext hea) hl').mono ?_
 rintro e w1 ⟨s1,A1,n1,c1,rfl,z1,hx1⟩
 have hd3:=hb3.ext hx1
 clear f1 f2 f3 f4 h1 h2 h3 h4 k1 k2 k3 k4
 obtain⟨k1,k2,k3,k4⟩:=hd3.two
 go_wp2_with fail
 refine iT (lM G G (hd3.two_set _ _)) G ?_
 exact lT hd3 (z1.cast Int.sub_eq_add_neg.symm) (by omega) (hea.trans hx1)
theorem IW {t:Bool}(hx:Zi w s A n cap x)(hl:n≤68719476736)(hy:Zi w t B m cap' y)(hl':m≤68719476736):aQ aM 104 #[J s A n cap,J t B m cap'] w (zE (bN x y) w):=by
 go_enter Tryz.func104,Tryz.ntmps104
 go_upto_region 1 with (fail)
 obtain⟨g,g2,wa,hg2,hg,hwa,hb1,hb2,hea,l12,l2,n12,n21⟩:=yX w 24 24 (.bool s) (AT A n cap) (.bool t) (AT B m cap')
 rw [hg2,hg,hwa]
 have hgw:w.heap.size≤g:=Nat.le_of_eq hg
 clear hwa hg hg2
 obtain⟨f1,f2,f3,f4⟩:=hb1.two
 obtain⟨h1,h2,h3,h4⟩:=hb2.two
 go_region_held3 (fun w'=>w'.cell? ⟨g,0,none⟩=some (.bool s)∧w'.cell? ⟨g,1,none⟩=some (AT A n cap)∧w'.cell? ⟨g2,0,none⟩=some (.bool t)∧w'.cell? ⟨g2,1,none⟩=some (AT B m cap')) (go_keep)
  (first
  | (go_at_call 23;(with_reducible refine (wJ (hx.ext (hea.trans (by repeat (first | exact Ext.refl _ | assumption | apply Ext.drewN | apply Ext.drew | apply Ext.alloc)))) hl).mono ?_);rintro e w2 ⟨c,hc,hcl,hch,rfl,hx2⟩;have he2:Ext wa w2:=Ext.trans (by repeat (first | exact Ext.refl _ | assumption | apply Ext.drewN | apply Ext.drew | apply Ext.alloc)) hx2;obtain⟨f1,f2,f3,f4⟩:=(hb1.ext he2).two;obtain⟨h1,h2,h3,h4⟩:=(hb2.ext he2).two)
  | (go_at_call 23;(with_reducible refine (wJ (hy.ext (hea.trans (by repeat (first | exact Ext.refl _ | assumption | apply Ext.drewN | apply Ext.drew | apply Ext.alloc)))) hl').mono ?_);rintro e w2 ⟨d,hd,hdl,hdh,rfl,hx2⟩;have he2:Ext wa w2:=Ext.trans (by repeat (first | exact Ext.refl _ | assumption | apply Ext.drewN | apply Ext.drew | apply Ext.alloc)) hx2;obtain⟨f1,f2,f3,f4⟩:=(hb1.ext he2).two;obtain⟨h1,h2,h3,h4⟩:=(hb2.ext he2).two))
 all_goals
  have e2:=hea.trans he2
  clear hx2
  have p1:c<0↔x<0:=by rw [hc.out];exact oC
  have p2:c=0↔x=0:=by rw [hc.out];exact kK
  have p3:d<0↔y<0:=by rw [hd.out];exact oC
  have p4:d=0↔y=0:=by rw [hd.out];exact kK
  have hlt:c<d→x<y:=by omega
  have hgt:d<c→y<x:=by omega
  have H1:=Lib.hid p1
  have H2:=Lib.hid p2
  have H3:=Lib.hid p3
  have H4:=Lib.hid p4
  clear p1 p2 p3 p4
  rcases Int.lt_trichotomy c d with h | h | h
  ·have bn:(c != d)=true:=by simp;omega
   have HL:=Lib.hid (hlt h)
   clear hlt hgt
   go_wp2_with fail
   go_ret
   exact⟨-1,(show _=_ by rw [bN,if_pos HL.out]),by omega,by omega,rfl,e2⟩
  ·subst h
   have bn:(c != c)=false:=by simp
   clear hlt hgt
   obtain⟨xs,hr,hxv⟩:=hx
   obtain⟨ys,hq,hyv⟩:=hy
   have HX:=Lib.hid hxv
   have HY:=Lib.hid hyv
   clear hxv hyv
   go_wp2_with fail
   refine (uC (hr.ext e2) (hq.ext e2)).mono ?_
   rintro e w3 ⟨k,hk,hkl,hkh,rfl,hx3⟩
   have fin:c*k=bN x y:=by
    have ax:x.natAbs=nv xs:=by rw [←HX.out,jU]
    have ay:y.natAbs=nv ys:=by rw [←HY.out,jU]
    have k1:k<0↔nv xs<nv ys:=by rw [hk.out];exact mP
    have k2:0<k↔nv ys<nv xs:=by rw [hk.out];exact S9
    have p1:=H1.out
    have p2:=H2.out
    have p3:=H3.out
    have p4:=H4.out
    have hc3:c= -1∨c=0∨c=1:=by omega
    have hk3:k= -1∨k=0∨k=1:=by omega
    rcases hc3 with rfl | rfl | rfl
    ·rcases hk3 with rfl | rfl | rfl <;> (unfold bN;split <;> (try split) <;> omega)
    ·unfold bN;split <;> (try split) <;> omega
    ·rcases hk3 with rfl | rfl | rfl <;> (unfold bN;split <;> (try split) <;> omega)
   have FIN:=Lib.hid fin
   clear fin
   have hc3:c= -1∨c=0∨c=1:=by omega
   rcases hc3 with rfl | rfl | rfl
   ·go_wp2_with fail
    go_ret
    exact⟨-k,(show _=_ by rw [←FIN.out];omega),by omega,by omega,rfl,e2.trans hx3⟩
   ·go_wp2_with fail
    go_ret
    exact⟨0,(show _=_ by rw [←FIN.out];omega),by omega,by omega,rfl,e2.trans hx3⟩
   ·go_wp2_with fail
    go_ret
    exact⟨k,(show _=_ by rw [←FIN.out];omega),by omega,by omega,rfl,e2.trans hx3⟩
  ·have bn:(c != d)=true:=by simp;omega
   have hnl:¬c<d:=by omega
   have HG:=Lib.hid (hgt h)
   clear hlt hgt
   go_wp2_with fail
   go_ret
   exact⟨1,(show _=_ by have:=HG.out;rw [bN,if_neg (by omega),if_neg (by omega)]),by omega,by omega,rfl,e2⟩
theorem ST {t:Bool}(hx:Zi w s A n cap x)(hl:n≤68719476736)(hy:Zi w t B m cap' y)(hl':m≤68719476736):aQ aM 44 #[J s A n cap,J t B m cap'] w (kZ w (Int.gcd x y:Int)):=by
 obtain⟨xs,hr,rfl⟩:=hx
 obtain⟨ys,hq,rfl⟩:=hy
 go_enter Tryz.func44,Tryz.ntmps44
 go_upto_region 1 with (fail)
 obtain⟨g,g2,g3,wa,hg3,hg2,hg,hwa,hb1,hb2,hb3,hea,l12,l23,l3,n12,n21,n13,n31,n23,n32⟩:=vC w 24 24 24 (.bool s) (AT A n cap) (.bool t) (AT B m cap') (BY) (AT none 0 0)
 rw [hg3,hg2,hg,hwa]
 have hgw:w.heap.size≤g:=Nat.le_of_eq hg
 clear hwa hg hg2 hg3
 obtain⟨f1,f2,f3,f4⟩:=hb1.two
 obtain⟨h1,h2,h3,h4⟩:=hb2.two
 obtain⟨k1,k2,k3,k4⟩:=hb3.two
 go_wp2_with fail
 refine (RJ (hr.ext hea) (by omega) (hq.ext hea) (by omega)).mono ?_
 rintro e w1 ⟨A1,n1,c1,rfl,hn1,hr1,ho1,hx1⟩
 have hd3:=hb3.ext hx1
 clear f1 f2 f3 f4 h1 h2 h3 h4 k1 k2 k3 k4
 obtain⟨k1,k2,k3,k4⟩:=hd3.two
 go_wp2_with fail
 refine iT (lM G G (hd3.two_set _ _)) G ?_
 refine lT hd3 (iL (s:=false) (m:=Nat.gcd (nv xs) (nv ys)) ?_ hn1.out ho1 ?_) (by omega) (hea.trans hx1)
 ·rw [mF];simp
 ·rw [mF,Int.gcd,jU,jU]
theorem IR {v:Nat}(hv:v≤9223372036854775807):aQ aM 25 #[v4 (v:Int)] w (kZ w ((v:Int))):=by
 have hn:¬(v:Int)<0:=by omega
 go_enter Tryz.func25,Tryz.ntmps25
 go_upto_region 3 with (fail)
 obtain⟨g,hg⟩:∃g,w.heap.size=g:=⟨_,rfl⟩
 obtain⟨wa,hwa⟩:∃wa,w.alloc (.cells #[.bool false,.slice none 0 0] 24)=wa:=⟨_,rfl⟩
 rw [hg,hwa]
 have hb:Bk wa g 24 (O false none 0 0):=by rw [←hwa,←hg];exact Bk.new w 24 (O false none 0 0)
 have hea:Ext w wa:=by rw [←hwa];exact (Ext.refl w).alloc _
 have hga:w.heap.size≤g:=Nat.le_of_eq hg
 have hgl:g<wa.heap.size:=hb.lt
 clear hwa hg
 obtain⟨k1,k2,k3,k4⟩:=hb.two
 have h1:Rd (wa.alloc (.cells #[AI (v:Int)] 36)) (some ⟨wa.heap.size,0,none⟩) 1 1 [v]:=Rd.one wa (by omega)
 go_wp2_with fail
 refine (jW (h1.ext (by repeat (first | exact Ext.refl _ | assumption | apply Ext.drewN | apply Ext.drew | apply Ext.alloc)))).mono ?_
 rintro e w1 ⟨A1,n1,c1,rfl,hn1,hr1,ho1,hx1⟩
 rw [u4] at hn1 ho1
 have hx1':Ext wa w1:=Ext.trans (by repeat (first | exact Ext.refl _ | assumption | apply Ext.drewN | apply Ext.drew | apply Ext.alloc)) hx1
 have hd:=hb.ext hx1'
 have hsz:=hx1'.size
 go_wp2_with fail
 refine (kR hn1.out).mono ?_
 rintro e w2 ⟨s',rfl,hs',hx2⟩
 have hd:=hd.ext hx2
 clear k1 k2 k3 k4
 obtain⟨k1,k2,k3,k4⟩:=hd.two
 go_wp2_with fail
 refine iT (lM G G (hd.two_set _ _)) G ?_
 exact lT hd ((iL hs'.out hn1.out ho1 (mF _)).ext hx2) (by simp;omega) (hea.trans (hx1'.trans hx2))
def RetZZEA (w:a7)(q r:Int)(er:Int)(e:dM)(w':a7):Prop:=
 ∃s A n cap s' B m cap',e= .returned (.tuple #[J s A n cap,J s' B m cap',v4 er])∧Zr w' w.heap.size s A n cap q∧Zr w' w.heap.size s' B m cap' r∧Ext w w'∧∀p q,A=some p→B=some q→p.block≠q.block
theorem RetZZEA.old {q r:Int}{e:dM}(h:RetZZEA w q r er e w'):zF w q r er e w':=by
 obtain⟨s,A,n,c,s',B,m,c',f,p,o,D,_⟩:=h
 exact⟨s,A,n,c,s',B,m,c',f,p,o,D⟩
theorem IL {t:Bool}(hx : Zi w s A n cap x)(hl : n ≤ 68719476736)(hy : Zi w t B m cap' y)(hl' : m ≤ 68719476736)(h0 : y ≠ 0):aQ aM 26 #[.agg #[.bool s, AT A n cap], .agg #[.bool t, AT B m cap']] w (RetZZEA w (x.tdiv y) (x.tmod y) 0) := by
  obtain ⟨xs, hr, rfl⟩ := hx
  obtain ⟨ys, hq, rfl⟩ := hy
  have hz : nv ys ≠ 0 := fun e => h0 (BW.2 e)
  have HZ := Lib.hid hz
  clear hz h0
  go_enter Tryz.func26, Tryz.ntmps26
  go_upto_region 1 with (fail)
  obtain ⟨g, g2, g3, g4, wa, hg4, hg3, hg2, hg, hwa, hb1, hb2, hb3, hb4, hea, l12, l23, l34, l4, n12, n21, n13, n31, n23, n32, n14, n41, n24, n42, n34, n43⟩ := SM w 24 24 24 24 (.bool s) (AT A n cap) (.bool t) (AT B m cap') (BY) (AT none 0 0) (BY) (AT none 0 0)
  rw [hg4, hg3, hg2, hg, hwa]
  have hgw : w.heap.size ≤ g := Nat.le_of_eq hg
  clear hwa hg hg2 hg3 hg4
  obtain ⟨f1, f2, f3, f4⟩ := hb1.two
  obtain ⟨h1, h2, h3, h4⟩ := hb2.two
  go_wp2_with fail
  refine (FY (hr.ext hea) (by omega) (hq.ext hea) (by omega) HZ.out).mono ?_
  rintro e w1 ⟨Aq, nq, cq, Ar, nr, cr, rfl, hnq, hrq, hoq, hnr, hrr, hor, hx1, hap⟩
  replace hap := Lib.hid hap
  clear f1 f2 f3 f4 h1 h2 h3 h4
  have hb1 := hb1.ext hx1
  have hb2 := hb2.ext hx1
  have hb3 := hb3.ext hx1
  have hb4 := hb4.ext hx1
  have hsz := hx1.size
  have e1 := hea.trans hx1
  go_upto_region 4 with (fail)
  obtain ⟨f1, f2, f3, f4⟩ := hb1.two
  obtain ⟨h1, h2, h3, h4⟩ := hb2.two
  obtain ⟨i1, i2, i3, i4⟩ := hb3.two
  obtain ⟨k1, k2, k3, k4⟩ := hb4.two
  go_region_held3 (fun w' => w'.cell? ⟨g, 0, none⟩ = some (.bool s) ∧ w'.cell? ⟨g, 1, none⟩ = some (AT A n cap) ∧ w'.cell? ⟨g2, 0, none⟩ = some (.bool t) ∧ w'.cell? ⟨g2, 1, none⟩ = some (AT B m cap')) (go_keep)
    (first
    | (go_at_call 57; (with_reducible refine (kR hnq.out).mono ?_); rintro e w5 ⟨s5, rfl, hs5, hx5⟩; have he5 : Ext w1 w5 := Ext.trans (by repeat (first | exact Ext.refl _ | assumption | apply Ext.drewN | apply Ext.drew | apply Ext.alloc)) hx5; clear f1 f2 f3 f4 h1 h2 h3 h4 i1 i2 i3 i4 k1 k2 k3 k4; obtain ⟨f1, f2, f3, f4⟩ := (hb1.ext he5).two; obtain ⟨h1, h2, h3, h4⟩ := (hb2.ext he5).two; obtain ⟨i1, i2, i3, i4⟩ := (hb3.ext he5).two; obtain ⟨k1, k2, k3, k4⟩ := (hb4.ext he5).two)
    | (go_at_call 57; (with_reducible refine (kR hnr.out).mono ?_); rintro e w6 ⟨s6, rfl, hs6, hx6⟩; have he6 : Ext w1 w6 := Ext.trans (by repeat (first | exact Ext.refl _ | assumption | apply Ext.drewN | apply Ext.drew | apply Ext.alloc)) hx6; clear f1 f2 f3 f4 h1 h2 h3 h4 i1 i2 i3 i4 k1 k2 k3 k4; obtain ⟨f1, f2, f3, f4⟩ := (hb1.ext he6).two; obtain ⟨h1, h2, h3, h4⟩ := (hb2.ext he6).two; obtain ⟨i1, i2, i3, i4⟩ := (hb3.ext he6).two; obtain ⟨k1, k2, k3, k4⟩ := (hb4.ext he6).two))
  all_goals
    clear f1 f2 f3 f4 h1 h2 h3 h4 i1 i2 i3 i4 k1 k2 k3 k4
    first
    | (obtain ⟨wb, hwb⟩ : ∃ wb, (((w6.setCell ⟨g3, 0, none⟩ (.bool s5)).setCell ⟨g3, 1, none⟩ (.slice Aq nq cq)).setCell ⟨g4, 0, none⟩ (.bool s6)).setCell ⟨g4, 1, none⟩ (.slice Ar nr cr) = wb := ⟨_, rfl⟩
       rw [hwb]
       have hL := he6)
    | (obtain ⟨wb, hwb⟩ : ∃ wb, (((w5.setCell ⟨g3, 0, none⟩ (.bool s5)).setCell ⟨g3, 1, none⟩ (.slice Aq nq cq)).setCell ⟨g4, 0, none⟩ (.bool s6)).setCell ⟨g4, 1, none⟩ (.slice Ar nr cr) = wb := ⟨_, rfl⟩
       rw [hwb]
       have hL := he5)
    have q3 : Bk wb g3 24 [.bool s5, AT Aq nq cq] := by rw [← hwb]; exact ((hb3.ext hL).two_set _ _).two_far n34 _ _
    have q4 : Bk wb g4 24 [.bool s6, AT Ar nr cr] := by rw [← hwb]; exact ((hb4.ext hL).two_far n43 _ _).two_set _ _
    have r5 : Zr wb w.heap.size s5 Aq nq cq ((sg s (nv xs)).tdiv (sg t (nv ys))) := by
      rw [← hwb]
      exact (((((iL hs5.out hnq.out hoq (wZ _ _ _ _)).ext hL).upd (by omega) (Upd.two _ _)).upd (by omega) (Upd.two _ _)).mono (by omega))
    have r6 : Zr wb w.heap.size s6 Ar nr cr ((sg s (nv xs)).tmod (sg t (nv ys))) := by
      rw [← hwb]
      exact (((((iL hs6.out hnr.out hor (BT _ _ _ _)).ext hL).upd (by omega) (Upd.two _ _)).upd (by omega) (Upd.two _ _)).mono (by omega))
    have eb : Ext w wb := by rw [← hwb]; exact (Upd.two _ _).ext ((Upd.two _ _).ext (e1.trans hL) (by omega)) (by omega)
    clear hwb
    go_wp2_with fail
    refine iT (LL G G G G q3 q4) G ?_
    exact ⟨s5, Aq, nq, cq, s6, Ar, nr, cr, rfl, r5, r6, eb, hap.out⟩
theorem IM {t:Bool}(hx:Zi w s A n cap x)(hl:n≤68719476736)(hy:Zi w t B m cap' y)(hl':m≤68719476736)(h0:y≠0):aQ aM 26 #[J s A n cap,J t B m cap'] w (zF w (x.tdiv y) (x.tmod y) 0):=(IL hx hl hy hl' h0).mono fun _ _ h=>h.old
theorem pQ (h:y≠0):(x.tmod y).natAbs<y.natAbs:=by
 rw [Int.natAbs_tmod]
 exact gB _ (by omega)
theorem Zi.sgn {z:Int}(h:Zi w s A n cap z)(h0:z≠0):s=decide (z<0):=by
 obtain⟨xs,_,rfl⟩:=h
 have hm:nv xs≠0:=fun e=>h0 (BW.2 e)
 rw [pU,decide_eq_true (show 0<nv xs by omega),Bool.and_true]
end
section
namespace Pop
def mk (m:Nat):Nat→Nat
 | 0=>0
 | k+1=>m+256*mk m k
theorem sN (a A m M:Nat)(ha:a<256)(hm:m<256:=by omega):(a+256*A)&&& (m+256*M)=(a&&& m)+256*(A&&& M):=by
 have h:((a+256*A)&&& (m+256*M))%2^8=a&&& m:=by
  rw [Nat.and_mod_two_pow]
  congr 1 <;> omega
 have o:((a+256*A)&&& (m+256*M))/2^8=A&&& M:=by
  rw [Nat.and_div_two_pow]
  congr 1 <;> omega
 have f:=jN ((a+256*A)&&& (m+256*M)) (2^8)
 rw [h,o] at f
 exact f.symm
def f1 (k x:Nat):Nat:=(x/2&&& mk 85 k)+(x&&& mk 85 k)
def f2 (k x:Nat):Nat:=(x/4&&& mk 51 k)+(x&&& mk 51 k)
def f3 (k x:Nat):Nat:=(x/16+x)&&& mk 15 k
def d1 (b:Nat):Nat:=(b/2&&& 85)+(b&&& 85)
def d2 (b:Nat):Nat:=(b/4&&& 51)+(b&&& 51)
def d3 (b:Nat):Nat:=(b/16+b)&&& 15
def pc (b:Nat):Nat:=d3 (d2 (d1 b))
theorem t1:∀b:Fin 256,∀p:Fin 2,((b.val/2+128*p.val)&&& 85)=(b.val/2&&& 85):=by decide+kernel
theorem t2:∀b:Fin 256,∀p:Fin 4,((b.val/4+64*p.val)&&& 51)=(b.val/4&&& 51):=by decide+kernel
theorem t3:∀b:Fin 256,∀p:Fin 5,((d2 (d1 b.val)/16+d2 (d1 b.val)+16*p.val)&&& 15)=pc b.val:=by decide+kernel
theorem t4:∀b:Fin 256,d1 b.val<256∧d2 (d1 b.val)<69∧d2 (d1 b.val)%16≤4∧pc b.val≤8∧(pc b.val=0→b.val=0)∧(128≤b.val→pc b.val≤1→b.val=128):=by decide+kernel
theorem R4 {B:Nat}(hb:b<256):f1 (k+1) (b+256*B)=d1 b+256*f1 k B:=by
 unfold f1 d1
 rw [show mk 85 (k+1)=85+256*mk 85 k from rfl]
 have e:(b+256*B)/2=(b/2+128*(B%2))+256*(B/2):=by omega
 rw [e,sN _ _ _ _ (by omega),sN _ _ _ _ hb,t1 ⟨b,hb⟩ ⟨B%2,by omega⟩]
 show (b/2&&& 85)+_+_=_
 omega
theorem R3 {B:Nat}(hb:b<256):f2 (k+1) (b+256*B)=d2 b+256*f2 k B:=by
 unfold f2 d2
 rw [show mk 51 (k+1)=51+256*mk 51 k from rfl]
 have e:(b+256*B)/4=(b/4+64*(B%4))+256*(B/4):=by omega
 rw [e,sN _ _ _ _ (by omega),sN _ _ _ _ hb,t2 ⟨b,hb⟩ ⟨B%4,by omega⟩]
 show (b/4&&& 51)+_+_=_
 omega
theorem nC {B:Nat}(hb:b<256)(hB:f2 k (f1 k B)%16≤4):f3 (k+1) (f2 (k+1) (f1 (k+1) (b+256*B)))=pc b+256*f3 k (f2 k (f1 k B))∧f2 (k+1) (f1 (k+1) (b+256*B))%16≤4:=by
 obtain⟨f,h,_,_⟩:=t4 ⟨b,hb⟩
 rw [R4 hb,R3 f]
 refine⟨?_,by omega⟩
 generalize f2 k (f1 k B)=C at*
 unfold f3
 rw [show mk 15 (k+1)=15+256*mk 15 k from rfl]
 have e:(d2 (d1 b)+256*C)/16+(d2 (d1 b)+256*C)=(d2 (d1 b)/16+d2 (d1 b)+16*(C%16))+256*(C/16+C):=by omega
 have h2':d2 (d1 b)<69:=h
 rw [e,sN _ _ _ _ (by omega),t3 ⟨b,hb⟩ ⟨C%16,by omega⟩]
theorem R8 {b0 b1 b2 b3 b4 b5 b6 b7:Nat}(h0:b0<256)(h1:b1<256)(h2:b2<256)(h3:b3<256)(h4:b4<256)(h5:b5<256)(h6:b6<256)(h7:b7<256):f3 8 (f2 8 (f1 8 (b0+256*(b1+256*(b2+256*(b3+256*(b4+256*(b5+256*(b6+256*(b7+256*0))))))))))
   =pc b0+256*(pc b1+256*(pc b2+256*(pc b3+256*(pc b4+256*(pc b5+256*(pc b6+256*pc b7)))))):=by
 have p:=nC (k:=0) (B:=0) h7 (by decide)
 have q:=nC h6 p.2
 have h:=nC h5 q.2
 have f:=nC h4 h.2
 have D:=nC h3 f.2
 have E:=nC h2 D.2
 have o:=nC h1 E.2
 have F:=nC h0 o.2
 rw [F.1,o.1,E.1,D.1,f.1,h.1,q.1,p.1]
 simp [f3,mk]
theorem R1 {p0 p1 p2 p3 p4 p5 p6 p7:Nat}(h0:p0≤8)(h1:p1≤8)(h2:p2≤8)(h3:p3≤8)(h4:p4≤8)(h5:p5≤8)(h6:p6≤8)(h7:p7≤8)(e3:x3=p0+256*(p1+256*(p2+256*(p3+256*(p4+256*(p5+256*(p6+256*p7)))))))(e4:x4=x3+x3/256)(e5:x5=x4+x4/65536)(e6:x6=x5+x5/4294967296):x6%128=p0+p1+p2+p3+p4+p5+p6+p7∧x6<18446744073709551616:=by
 have f:x4=(p0+p1)+256*((p1+p2)+256*((p2+p3)+256*((p3+p4)+256*((p4+p5)+256*((p5+p6)+256*((p6+p7)+256*p7)))))):=by omega
 clear e3 e4
 have h:x5=(p0+p1+p2+p3)+256*((p1+p2+p3+p4)+256*((p2+p3+p4+p5)+256*((p3+p4+p5+p6)+256*((p4+p5+p6+p7)+256*((p5+p6+p7)+256*((p6+p7)+256*p7)))))):=by omega
 clear f e5
 have gq:x5/4294967296=(p4+p5+p6+p7)+256*((p5+p6+p7)+256*((p6+p7)+256*p7)):=by omega
 rw [gq] at e6
 have o:x6=(p0+p1+p2+p3+p4+p5+p6+p7)+256*(((p1+p2+p3+p4)+256*((p2+p3+p4+p5)+256*((p3+p4+p5+p6)+256*((p4+p5+p6+p7)+256*((p5+p6+p7)+256*((p6+p7)+256*p7))))))+((p5+p6+p7)+256*((p6+p7)+256*p7))):=by omega
 clear gq e6 h
 omega
theorem one {x x1 x2:Nat}(hx:x<18446744073709551616)(hh:9223372036854775808≤x)(e1:x1=f1 8 x)(e2:x2=f2 8 x1)(e3:x3=f3 8 x2)(e4:x4=x3+x3/256)(e5:x5=x4+x4/65536)(e6:x6=x5+x5/4294967296):x6%128=1↔x=9223372036854775808:=by
 obtain⟨M,q0,H,bd⟩:∃b q,b<256∧x=b+256*q:=⟨x%256,x/256,by omega,by omega⟩
 obtain⟨V,q1,o,an⟩:∃b q,b<256∧q0=b+256*q:=⟨q0%256,q0/256,by omega,by omega⟩
 obtain⟨U,q2,I,az⟩:∃b q,b<256∧q1=b+256*q:=⟨q1%256,q1/256,by omega,by omega⟩
 obtain⟨b3,q3,Z,au⟩:∃b q,b<256∧q2=b+256*q:=⟨q2%256,q2/256,by omega,by omega⟩
 obtain⟨L,q4,p,av⟩:∃b q,b<256∧q3=b+256*q:=⟨q3%256,q3/256,by omega,by omega⟩
 obtain⟨X,q5,E,bc⟩:∃b q,b<256∧q4=b+256*q:=⟨q4%256,q4/256,by omega,by omega⟩
 obtain⟨F,f,Y,ba⟩:∃b q,b<256∧q5=b+256*q:=⟨q5%256,q5/256,by omega,by omega⟩
 have W:f<256:=by omega
 have hb7':128≤f:=by omega
 have e:=R8 H o I Z p E Y W
 have ex:x=M+256*(V+256*(U+256*(b3+256*(L+256*(X+256*(F+256*(f+256*0))))))):=by omega
 rw [←ex,←e1,←e2,←e3] at e
 have p0:=(t4 ⟨M,H⟩).2.2.2
 have p1:=(t4 ⟨V,o⟩).2.2.2
 have p2:=(t4 ⟨U,I⟩).2.2.2
 have p3:=(t4 ⟨b3,Z⟩).2.2.2
 have p4:=(t4 ⟨L,p⟩).2.2.2
 have p5:=(t4 ⟨X,E⟩).2.2.2
 have p6:=(t4 ⟨F,Y⟩).2.2.2
 have D:=(t4 ⟨f,W⟩).2.2.2
 have hf:=(R1 p0.1 p1.1 p2.1 p3.1 p4.1 p5.1 p6.1 D.1 e e4 e5 e6).1
 simp only at p0 p1 p2 p3 p4 p5 p6 D
 rw [hf]
 show (pc M+pc V+pc U+pc b3+pc L+pc X+pc F+pc f=1)↔_
 constructor
 ·intro h
  have h7:pc f≠0:=fun hz=>by have:=D.2.1 hz;omega
  have hs:pc M+pc V+pc U+pc b3+pc L+pc X+pc F=0∧pc f=1:=by clear p0 p1 p2 p3 p4 p5 p6 D e e1 e2 e3 e4 e5 e6 ex bd an az au av bc ba hf;omega
  obtain⟨hs,_⟩:=hs
  have z0:=p0.2.1 (by omega)
  have z1:=p1.2.1 (by omega)
  have z2:=p2.2.1 (by omega)
  have z3:=p3.2.1 (by omega)
  have z4:=p4.2.1 (by omega)
  have z5:=p5.2.1 (by omega)
  have z6:=p6.2.1 (by omega)
  have z7:=D.2.2 hb7' (by omega)
  omega
 ·intro h
  obtain rfl:f=128:=by omega
  obtain rfl:M=0:=by omega
  obtain rfl:V=0:=by omega
  obtain rfl:U=0:=by omega
  obtain rfl:b3=0:=by omega
  obtain rfl:L=0:=by omega
  obtain rfl:X=0:=by omega
  obtain rfl:F=0:=by omega
  decide
end Pop
end
section
open Go.RowKit
theorem IP {v:Nat}(hv1:1≤v)(hv:v≤9223372036854775808):aQ aM 25 #[v4 (-(v:Int))] w (kZ w (-(v:Int))):=by
 have hn: -(v:Int)<0:=by omega
 have w1e:IntKind.u64.wrap (-(v:Int))=18446744073709551616-(v:Int):=by
  simp only [tC,rE,rD]
  simp
  omega
 have w2e:IntKind.u64.wrap (-(18446744073709551616-(v:Int)))=(v:Int):=by
  simp only [tC,rE,rD]
  simp
  omega
 have W1:=Lib.hid w1e
 have W2:=Lib.hid w2e
 clear w1e w2e
 go_enter Tryz.func25,Tryz.ntmps25
 go_upto_region 2 with (fail)
 obtain⟨g,hg⟩:∃g,w.heap.size=g:=⟨_,rfl⟩
 obtain⟨wa,hwa⟩:∃wa,w.alloc (.cells #[.bool false,.slice none 0 0] 24)=wa:=⟨_,rfl⟩
 rw [hg,hwa]
 have hb:Bk wa g 24 (O false none 0 0):=by rw [←hwa,←hg];exact Bk.new w 24 (O false none 0 0)
 have hea:Ext w wa:=by rw [←hwa];exact (Ext.refl w).alloc _
 have hga:w.heap.size≤g:=Nat.le_of_eq hg
 have hgl:g<wa.heap.size:=hb.lt
 clear hwa hg
 obtain⟨k1,k2,k3,k4⟩:=hb.two
 have h1:Rd (wa.alloc (.cells #[AI (v:Int)] 36)) (some ⟨wa.heap.size,0,none⟩) 1 1 [v]:=Rd.one wa (by omega)
 have w1e:=W1.out
 have w2e:=W2.out
 go_wp2_with fail
 clear w1e w2e
 refine (jW (h1.ext (by repeat (first | exact Ext.refl _ | assumption | apply Ext.drewN | apply Ext.drew | apply Ext.alloc)))).mono ?_
 rintro e w1 ⟨A1,n1,c1,rfl,hn1,hr1,ho1,hx1⟩
 rw [u4] at hn1 ho1
 have hx1':Ext wa w1:=Ext.trans (by repeat (first | exact Ext.refl _ | assumption | apply Ext.drewN | apply Ext.drew | apply Ext.alloc)) hx1
 have hd:=hb.ext hx1'
 have hsz:=hx1'.size
 go_wp2_with fail
 refine (kR hn1.out).mono ?_
 rintro e w2 ⟨s',rfl,hs',hx2⟩
 have hd:=hd.ext hx2
 clear k1 k2 k3 k4
 obtain⟨k1,k2,k3,k4⟩:=hd.two
 go_wp2_with fail
 refine iT (lM G G (hd.two_set _ _)) G ?_
 exact lT hd ((iL hs'.out hn1.out ho1 (rP _)).ext hx2) (by simp;omega) (hea.trans (hx1'.trans hx2))
theorem IQ {v:Int}(h1: -9223372036854775808≤v)(h2:v≤9223372036854775807):aQ aM 25 #[v4 v] w (kZ w v):=by
 by_cases h:0≤v
 ·obtain⟨m,rfl⟩:=Int.eq_ofNat_of_zero_le h
  exact IR (by omega)
 ·obtain⟨m,hm⟩:∃m:Nat,v= -(m:Int):=⟨v.natAbs,by omega⟩
  subst hm
  exact IP (by omega) (by omega)
theorem a8:AggT aM 24 2:=⟨fun _=>by kernel_rfl,fun _=>by kernel_rfl⟩
theorem vJ:AggT aM 60 4:=⟨fun _=>by kernel_rfl,fun _=>by kernel_rfl⟩
theorem dZ:∀w,(isAgg 4).run aM w= .ok false w:=fun _=>by kernel_rfl
theorem cZ:∀w,(isAgg 22).run aM w= .ok false w:=fun _=>by kernel_rfl
theorem bR:Tryz.prog.follows .mixedOrders=true:=by kernel_rfl
def Is (u v:aI)(_:a7):Prop:=v=u
def ZR (b:Nat)(z:Int)(v:aI)(w:a7):Prop:=∃s A n c,v= J s A n c∧Zr w b s A n c z
def WR (b:Nat)(m:Nat)(v:aI)(w:a7):Prop:=∃A n c,v= AT A n c∧n=(wd m).length∧Own w b 36 1 A n c ((wd m).map aY)
def Wi (w:a7)(A:Option aG)(n c:Nat)(m:Nat):Prop:=∃xs,Rd w A n c xs∧nv xs=m
theorem Wi.ext (h:Wi w A n c m)(e:Ext w w'):Wi w' A n c m:=by
 obtain⟨xs,f,o⟩:=h
 exact⟨xs,f.ext e,o⟩
theorem Zi.wi {z:Int}(h:Zi w s A n c z):Wi w A n c z.natAbs:=by
 obtain⟨xs,f,o⟩:=h
 exact⟨xs,f,by rw [←o,jU]⟩
theorem Own.wi (h:Own w b t 1 A n c ((wd m).map aY)):Wi w A n c m:=⟨_,h.rd (nW _),eD m⟩
def PR (b:Nat)(T:aU)(vs:List aI)(v:aI)(w:a7):Prop:=∃g,v= no g 0∧b≤g∧Bk w g T vs
theorem PR.old {v:aI}(h:PR b T vs v w):vO w v:=by
 obtain⟨g,rfl,_,o⟩:=h
 intro k f
 rw [EJ f];exact o.lt
theorem vM (hn:n=(wd m).length)(ho:Own w b 36 1 A n c ((wd m).map aY)):Zr w b false A n c (m:Int):=
 iL (m:=m) (s:=false) (by rw [mF];symm;exact decide_eq_false (by omega)) hn ho (mF m)
def T2 (R S:aI→a7→Prop)(v:aI)(w:a7):Prop:=∃a b,v= .tuple #[a,b]∧R a w∧S b w
def T3 (R S T:aI→a7→Prop)(v:aI)(w:a7):Prop:=∃a b c,v= .tuple #[a,b,c]∧R a w∧S b w∧T c w
def Gv (w:a7)(R:aI→a7→Prop)(e:dM)(w':a7):Prop:=∃v,e= .returned v∧R v w'∧Ext w w'
section
variable {w w':a7}{b:Nat}{z x y:Int}{v u:aI}{R S T:aI→a7→Prop}
theorem gz (hb:b≤w.heap.size)(e:dM)(w':a7)(h:kZ w z e w'):Gv w (ZR b z) e w':=by
 obtain⟨s,A,n,c,rfl,f,o⟩:=h
 exact⟨_,rfl,⟨s,A,n,c,rfl,f.mono hb⟩,o⟩
theorem OG (hb:b≤w.heap.size)(e:dM)(w':a7)(h:zF w x y er e w'):Gv w (T3 (ZR b x) (ZR b y) (Is (v4 er))) e w':=by
 obtain⟨s,A,n,c,s',B,m,c',rfl,f,h1',o⟩:=h
 exact⟨_,rfl,⟨_,_,_,rfl,⟨s,A,n,c,rfl,f.mono hb⟩,⟨s',B,m,c',rfl,h1'.mono hb⟩,rfl⟩,o⟩
theorem gw (hb:b≤w.heap.size)(e:dM)(w':a7)(h:j9 w m e w'):Gv w (WR b m) e w':=by
 obtain⟨A,n,c,rfl,f,_,o,p⟩:=h
 exact⟨_,rfl,⟨A,n,c,rfl,f.out,o.mono hb⟩,p⟩
theorem OH (hb:b≤w.heap.size)(e:dM)(w':a7)(h:sR w m er e w'):Gv w (T2 (WR b m) (Is (v4 er))) e w':=by
 obtain⟨A,n,c,rfl,f,_,o,p⟩:=h
 exact⟨_,rfl,⟨_,_,rfl,⟨A,n,c,rfl,f.out,o.mono hb⟩,rfl⟩,p⟩
theorem Gv.imp (hi:∀v w,R v w→S v w)(e:dM)(w':a7)(h:Gv w R e w'):Gv w S e w':=by
 obtain⟨v,rfl,f,o⟩:=h
 exact⟨v,rfl,hi _ _ f,o⟩
theorem ZR.imp (hb:b≤b')(v:aI)(w:a7)(h:ZR b' z v w):ZR b z v w:=by
 obtain⟨s,A,n,c,rfl,h⟩:=h
 exact⟨s,A,n,c,rfl,h.mono hb⟩
theorem WR.imp (hb:b≤b')(v:aI)(w:a7)(h:WR b' m v w):WR b m v w:=by
 obtain⟨A,n,c,rfl,f,o⟩:=h
 exact⟨A,n,c,rfl,f,o.mono hb⟩
theorem T2.imp {R' S':aI→a7→Prop}(h1:∀v w,R v w→R' v w)(h2:∀v w,S v w→S' v w)(v:aI)(w:a7)(h:T2 R S v w):T2 R' S' v w:=by
 obtain⟨a,c,rfl,o,f⟩:=h
 exact⟨a,c,rfl,h1 _ _ o,h2 _ _ f⟩
theorem T3.imp {R' S' T':aI→a7→Prop}(h1:∀v w,R v w→R' v w)(h2:∀v w,S v w→S' v w)(h0:∀v w,T v w→T' v w)(v:aI)(w:a7)(h:T3 R S T v w):T3 R' S' T' v w:=by
 obtain⟨a,c,d,rfl,p,o,f⟩:=h
 exact⟨a,c,d,rfl,h1 _ _ p,h2 _ _ o,h0 _ _ f⟩
theorem Is.imp (v:aI)(w:a7)(h:Is u v w):Is u v w:=h
theorem ON (e:dM)(w':a7)(h:e= .returned u∧Ext w w'):Gv w (Is u) e w':=⟨_,h.1,rfl,h.2⟩
theorem EK (e:dM)(w':a7)(h:zE z w e w'):Gv w (Is (v4 z)) e w':=by
 obtain⟨c,f,_,_,rfl,o⟩:=h
 exact⟨_,rfl,(show gK .i64 c=_ by rw [f.out]),o⟩
theorem EV {c:Bool}(e:dM)(w':a7)(h:vR c w e w'):Gv w (Is (.bool c)) e w':=⟨_,h.1,rfl,h.2⟩
end
section
variable {w:a7}{b:Nat}(hb:b≤w.heap.size){s t u:Bool}{A B C:Option aG}{n cap m cap' k cap'':Nat}{x y z:Int}
include hb
theorem yD (hx:Zi w s A n cap x)(hl:n≤274877906944)(hy:Zi w t B m cap' y)(hl':m≤274877906944):aQ aM 60 #[J s A n cap,J t B m cap'] w (Gv w (ZR b (x+y))):=(AC hx hl hy hl').mono (gz hb)
theorem oO (hx:Zi w s A n cap x)(hl:n≤274877906944)(hy:Zi w t B m cap' y)(hl':m≤274877906944):aQ aM 27 #[J s A n cap,J t B m cap'] w (Gv w (ZR b (x-y))):=(IO hx hl hy hl').mono (gz hb)
theorem mL (hx:Zi w s A n cap x)(hl:n≤68719476736)(hy:Zi w t B m cap' y)(hl':m≤68719476736):aQ aM 28 #[J s A n cap,J t B m cap'] w (Gv w (ZR b (x*y))):=(IV hx hl hy hl').mono (gz hb)
theorem OT (hx:Zi w s A n cap x)(hl:n≤68719476736):aQ aM 29 #[J s A n cap] w (Gv w (ZR b (-x))):=(IU hx hl).mono (gz hb)
theorem uO (hx:Zi w s A n cap x)(hl:n≤68719476736):aQ aM 24 #[J s A n cap] w (Gv w (ZR b (x.natAbs:Int))):=(IX hx hl).mono (gz hb)
theorem lS {v:Int}(h1: -9223372036854775808≤v)(h2:v≤9223372036854775807):aQ aM 25 #[v4 v] w (Gv w (ZR b v)):=(IQ h1 h2).mono (gz hb)
theorem EW (hx:Zi w s A n cap x)(hl:n≤68719476736)(hy:Zi w t B m cap' y)(hl':m≤68719476736)(h0:y≠0):aQ aM 26 #[J s A n cap,J t B m cap'] w (Gv w (T3 (ZR b (x.tdiv y)) (ZR b (x.tmod y)) (Is (v4 0)))):=(IM hx hl hy hl' h0).mono (OG hb)
omit hb in
theorem OS (hn:n=(wd m).length)(ho:Own w b 36 1 A n cap ((wd m).map aY)):aQ aM 57 #[.bool s,AT A n cap] w (Gv w (ZR b (sg s m))):=
 (kR hn).mono fun e w' h=>by
  obtain⟨s',rfl,o,f⟩:=h
  exact⟨_,rfl,⟨s',A,n,cap,rfl,iL o.out hn (ho.ext f) rfl⟩,f⟩
omit hb in
theorem QA (hx:Wi w A n cap i)(hl:n≤274877906944)(hy:Wi w B m cap' j)(hl':m≤274877906944)(h0:j≠0)(h1:i%j≠0):aQ aM 62 #[AT A n cap,AT B m cap'] w (Gv w (Is (.tuple #[AT none 0 0,v4 8]))):=by
 obtain⟨ys,hy,rfl⟩:=hy
 obtain⟨xs,hx,rfl⟩:=hx
 exact (RK hx hl hy hl' h0 h1).mono ON
theorem QB (hx:Wi w A n cap i)(hl:n≤274877906944)(hy:Wi w B m cap' j)(hl':m≤274877906944)(h0:j≠0)(h1:i%j=0):aQ aM 62 #[AT A n cap,AT B m cap'] w (Gv w (T2 (WR b (i/j)) (Is (v4 0)))):=by
 obtain⟨ys,hy,rfl⟩:=hy
 obtain⟨xs,hx,rfl⟩:=hx
 exact (RL hx hl hy hl' h0 h1).mono (OH hb)
theorem yH (hx:Zi w s A n cap x)(hl:n≤68719476736)(hy:Zi w t B m cap' y)(hl':m≤68719476736):aQ aM 44 #[J s A n cap,J t B m cap'] w (Gv w (ZR b (Int.gcd x y:Int))):=(ST hx hl hy hl').mono (gz hb)
end
section
variable {w:a7}{s t:Bool}{A B:Option aG}{n cap m cap':Nat}{x y:Int}
theorem f6 (hx:Zi w s A n cap x)(hl:n≤68719476736):aQ aM 23 #[J s A n cap] w (Gv w (Is (v4 (bN x 0)))):=(wJ hx hl).mono EK
theorem EX (hx:Zi w s A n cap x)(hl:n≤68719476736)(hy:Zi w t B m cap' y)(hl':m≤68719476736):aQ aM 104 #[J s A n cap,J t B m cap'] w (Gv w (Is (v4 (bN x y)))):=(IW hx hl hy hl').mono EK
end
def TA (R S T:aI→a7→Prop)(v:aI)(w:a7):Prop:=∃a b c,v= .tuple #[a,b,c]∧R a w∧S b w∧T c w∧∀g,dH a g→dH b g→False
theorem TA.imp {R S T R' S' T':aI→a7→Prop}(h1:∀v w,R v w→R' v w)(h2:∀v w,S v w→S' v w)(h3:∀v w,T v w→T' v w):∀v w,TA R S T v w→TA R' S' T' v w:=by
 rintro v w ⟨a,b,c,h,r,s,t,ap⟩
 exact⟨a,b,c,h,h1 _ _ r,h2 _ _ s,h3 _ _ t,ap⟩
theorem y6 (h:dH (J s A n c) g):∃p,A=some p∧p.block=g:=by
 rcases h with h | ⟨_,p,_,_,h,f⟩
 ·cases h
 ·injection h with h
  injection h with h
  injection h with _ h
  injection h with h _
  injection h with h
  exact⟨p,h,f⟩
theorem lQ (h:dH (J s none n c) g):False:=by
 obtain⟨p,h,_⟩:=y6 h
 cases h
theorem Zr.new (h:Zr w b s A n c x):∀g,dH (J s A n c) g→b≤g:=fun g o=>by
 obtain⟨p,f,_⟩:=y6 o
 have:=(h.own.block p f).1
 omega
theorem Zr.old (h:Zr w b s A n c x):∀g,dH (J s A n c) g→g<w.heap.size:=fun g o=>by
 obtain⟨p,f,_⟩:=y6 o
 have:=(h.own.block p f).2
 omega
theorem ZR.old {v:aI}(h:ZR b x v w):vO w v:=by
 obtain⟨s,A,n,c,rfl,h⟩:=h
 exact h.old
def TE (R S T:aI→a7→Prop)(v:aI)(w:a7):Prop:=∃a b c,v= .tuple #[a,b,c]∧R a w∧S b w∧T c w∧(∀g,dH a g→dH b g→False)∧(∀g,dH a g→dH c g→False)∧∀g,dH b g→dH c g→False
theorem TE.imp {R S T R' S' T':aI→a7→Prop}(h1:∀v w,R v w→R' v w)(h2:∀v w,S v w→S' v w)(h3:∀v w,T v w→T' v w):∀v w,TE R S T v w→TE R' S' T' v w:=by
 rintro v w ⟨a,b,c,h,r,s,t,ap⟩
 exact⟨a,b,c,h,h1 _ _ r,h2 _ _ s,h3 _ _ t,ap⟩
theorem TE.t3 {R S T:aI→a7→Prop}:∀v w,TE R S T v w→T3 R S T v w:=by
 rintro v w ⟨a,b,c,h,r,s,t,_⟩
 exact⟨a,b,c,h,r,s,t⟩
theorem qK {v:aI}(h:∀g,dH u g→g<N)(k:∀g,dH v g→N≤g):∀g,dH u g→dH v g→False:=fun g f o=>Nat.lt_irrefl _ (d4 (h g f) (k g o))
theorem T1 {v:aI}(h:∀g,dH u g→g<N)(k:∀g,dH v g→N≤g):∀g,dH v g→dH u g→False:=fun g f o=>Nat.lt_irrefl _ (d4 (h g o) (k g f))
section
variable {P:cC}{Q:dQ→Act→a7→Prop}{n:Nat}{l:Fr}{w:a7}{ops:Array aZ}{rest:List aZ}{d:Nat}{op:Op}{ty:aU}{pos:String}{af:Array fO}{gd:Option (Nat×Bool)}
theorem fA (hw:dG ops l gd=some true)(hk:jZ l op=true)(cells:List aI)(hr:∀w,(execOp (rho l) ⟨some d,op,ty,pos,af,gd⟩).run P w= .ok (.value (AT (some ⟨w.heap.size,0,none⟩) k k)) (w.alloc (.cells cells.toArray e)))(h:∀g w',NewBk w w' g e cells→wl P ops Q n rest ((d,AT (some ⟨g,0,none⟩) k k)::l) w')(hn:d<n:=by decide):wl P ops Q n (⟨some d,op,ty,pos,af,gd⟩::rest) l w:=
 gU hw hn (fun a f=>by rw [oS hk f];exact hr w) (h _ _ (NewBk.mk' w e cells))
end
def O1 (b x:Nat)(v:aI)(w:a7):Prop:=∃A,v= AT A 1 1∧Own w b 36 1 A 1 1 [aY x]
theorem O1.mk_ {x:Nat}(h:NewBk w w' g 36 [aY x])(hb:b≤w.heap.size):Own w' b 36 1 (some ⟨g,0,none⟩) 1 1 [aY x]:=
 Own.mk_ (by rw [←h.at_];exact hb) h.bk (aS _) (by rw [eB];omega) G rfl
theorem CY {x:Nat}(h:Own w b 36 1 A 1 1 [aY x])(hx:x≤18446744073709551615):Wi w A 1 1 x:=
 ⟨[x],h.rd (zB (by rw [cI];omega)),u4 x⟩
theorem pY {x:Nat}(h:Own w b 36 1 A 1 1 [aY x])(hx:x≤18446744073709551615)(h0:x≠0):Own w b 36 1 A 1 1 ((wd x).map aY):=by
 rw [wR (by rw [cI];omega) h0];exact h
theorem oL {x:Nat}(hx:x≤18446744073709551615)(h0:x≠0):1=(wd x).length:=by rw [wR (by rw [cI];omega) h0];rfl
theorem H8 (h:m≠0)(hn:n=(wd m).length)(ho:Own w b 36 1 A n c ((wd m).map aY)):Zr w b true A n c (-(m:Int)):=
 iL (m:=m) (s:=true) (by rw [pU,decide_eq_true (Nat.pos_of_ne_zero h)];rfl) hn ho (rP m)
def ZO (b x:Nat)(v:aI)(w:a7):Prop:=∃A,v= J false A 1 1∧Own w b 36 1 A 1 1 [aY x]
section
variable {P:cC}{Q:dQ→Act→a7→Prop}{n:Nat}{l:Fr}{w:a7}
def nJ (n:Nat)(ops:Array aZ):Nat→List aZ→Fr→Option (Fr×List aZ)
 | 0,rest,l=>some (l,rest)
 | _+1,[],_=>none
 | k+1,⟨some d,op,_,_,_,gd⟩::rest,l=>
  match Nat.blt d n with
  | true=>
   match dG ops l gd with
   | some true=>
    match op with
    | .move x=>match bY l x with
     | some v=>nJ n ops k rest ((d,v)::l)
     | none=>none
    | .assign x=>match bY l x with
     | some v=>nJ n ops k rest ((d,v)::l)
     | none=>none
    | _=>none
   | some false=>nJ n ops k rest ((d,undef)::l)
   | none=>none
  | false=>none
 | _+1,_::_,_=>none
theorem mv {ops:Array aZ}:∀(k:Nat){rest rest':List aZ}{l l':Fr},nJ n ops k rest l=some (l',rest')→wl P ops Q n rest' l' w→wl P ops Q n rest l w
 | 0,rest,rest',l,l',h,hw=>by
  simp only [nJ,eF,Prod.mk.injEq] at h
  obtain⟨rfl,rfl⟩:=h
  exact hw
 | k+1,[],rest',l,l',h,hw=>by simp [nJ] at h
 | k+1,⟨none,op,ty,pos,af,gd⟩::rest,rest',l,l',h,hw=>by simp [nJ] at h
 | k+1,⟨some d,op,ty,pos,af,gd⟩::rest,rest',l,l',h,hw=>by
  unfold nJ at h
  split at h
  ·rename_i o
   have hd':d<n:=Nat.le_of_ble_eq_true o
   split at h
   ·rename_i f
    split at h
    ·split at h
     ·rename_i hx
      exact J9 f hx hd' (mv k h hw)
     ·cases h
    ·split at h
     ·rename_i hx
      exact JF f hx hd' (mv k h hw)
     ·cases h
    ·cases h
   ·rename_i f
    exact J8 f hd' (mv k h hw)
   ·cases h
  ·cases h
theorem sr {y:Code}(h:wl P ol.toArray (Exit.then (fun a w=>y.wp P Q a w) Q) n ol l w):cw P Q n (.seq (.region id ol.toArray false) y) l w:=aH (aJ h)
theorem aA {y:Code}(h:cw P Q n y l w):wl P ops (Exit.then (fun a w=>y.wp P Q a w) Q) n [] l w:=aR (aK h)
theorem pu {d:Nat}{v:aI}(hk:(dG ops l gd==some true&&jZ l op&&Nat.blt d n)=true)(h:wl P ops Q n rest ((d,v)::l) w)(hr:(execOp (rho l) ⟨some d,op,ty,pos,af,gd⟩).run P w= .ok (.value v) w:=by kernel_rfl):wl P ops Q n (⟨some d,op,ty,pos,af,gd⟩::rest) l w:=by
 rw [eH,eH,beq_iff_eq] at hk
 exact AS hk.1.1 hk.1.2 (Nat.le_of_ble_eq_true hk.2) hr h
section
variable {ops:Array aZ}{rest:List aZ}{d:Nat}{ty:aU}{pos:String}{af:Array fO}{gd:Option (Nat×Bool)}{w0:a7}
theorem bx {x:d7}{v:aI}(vs:List aI)(h0:Ext w0 w)(hx:bY l x=some v)(hk:(dG ops l gd==some true&&Nat.blt d n)=true)(hv:v.cells=vs.toArray)(h:∀g w',Bk w' g t vs→w0.heap.size≤g→Ext w w'→Ext w0 w'→wl P ops Q n rest ((d,no g 0)::l) w'):wl P ops Q n (⟨some d,.box t x,ty,pos,af,gd⟩::rest) l w:=by
 rw [eH,beq_iff_eq] at hk
 exact mB hk.1 hx hv (hn:=(Nat.le_of_ble_eq_true hk.2)) fun g w' nb=>h g w' nb.bk (by rw [←nb.at_];exact h0.size) nb.ext (h0.trans nb.ext)
theorem d5 {x:d7}{v:aI}(vs:List aI)(h0:Ext w0 w)(hq:gp<w.heap.size)(hx:bY l x=some v)(hk:(dG ops l gd==some true&&Nat.blt d n)=true)(hv:v.cells=vs.toArray)(h:∀g w',Bk w' g t vs→w0.heap.size≤g→gp<g→Ext w w'→Ext w0 w'→wl P ops Q n rest ((d,no g 0)::l) w'):wl P ops Q n (⟨some d,.box t x,ty,pos,af,gd⟩::rest) l w:=by
 rw [eH,beq_iff_eq] at hk
 exact mB hk.1 hx hv (hn:=(Nat.le_of_ble_eq_true hk.2)) fun g w' nb=>h g w' nb.bk (by rw [←nb.at_];exact h0.size) (by rw [←nb.at_];exact hq) nb.ext (h0.trans nb.ext)
theorem al (vs:List aI)(h0:Ext w0 w)(hz:∀w,(zeroValue t).run P w= .ok (.agg vs.toArray) w)(hk:(dG ops l gd==some true&&Nat.blt d n)=true)(h:∀g w',Bk w' g t vs→w0.heap.size≤g→Ext w w'→Ext w0 w'→wl P ops Q n rest ((d,no g 0)::l) w'):wl P ops Q n (⟨some d,.alloc t,ty,pos,af,gd⟩::rest) l w:=by
 rw [eH,beq_iff_eq] at hk
 exact dW hk.1 hz G (hn:=(Nat.le_of_ble_eq_true hk.2)) fun g w' nb=>h g w' nb.bk (by rw [←nb.at_];exact h0.size) nb.ext (h0.trans nb.ext)
theorem bF (vs:List aI)(h0:Ext w0 w)(hq:gp<w.heap.size)(hz:∀w,(zeroValue t).run P w= .ok (.agg vs.toArray) w)(hk:(dG ops l gd==some true&&Nat.blt d n)=true)(h:∀g w',Bk w' g t vs→w0.heap.size≤g→gp<g→Ext w w'→Ext w0 w'→wl P ops Q n rest ((d,no g 0)::l) w'):wl P ops Q n (⟨some d,.alloc t,ty,pos,af,gd⟩::rest) l w:=by
 rw [eH,beq_iff_eq] at hk
 exact dW hk.1 hz G (hn:=(Nat.le_of_ble_eq_true hk.2)) fun g w' nb=>h g w' nb.bk (by rw [←nb.at_];exact h0.size) (by rw [←nb.at_];exact hq) nb.ext (h0.trans nb.ext)
theorem cl {xs:Array d7}{R:aI→a7→Prop}(h0:Ext w0 w)(hc:aQ P f vs.toArray w (Gv w R))(hk:(dG ops l gd==some true&&jZ l (.call {callee:= .value (.func f),args:=xs,argTypes:=ts})&&Nat.blt d n)=true)(hr:(execOp (rho l) ⟨some d,.call {callee:= .value (.func f),args:=xs,argTypes:=ts},ty,pos,af,gd⟩).run P w= .ok (.enter f vs.toArray) w)(h:∀v w',R v w'→Ext w w'→Ext w0 w'→wl P ops Q n rest ((d,v)::l) w'):wl P ops Q n (⟨some d,.call {callee:= .value (.func f),args:=xs,argTypes:=ts},ty,pos,af,gd⟩::rest) l w:=by
 rw [eH,eH,beq_iff_eq] at hk
 refine eL hk.1.1 hk.1.2 hr (Nat.le_of_ble_eq_true hk.2) hc ?_
 rintro _ w' ⟨v,rfl,r,e⟩
 exact eM (h v w' r e (h0.trans e))
theorem lo {x:d7}(hT:AggT P T k)(hb:Bk w g T' vs)(us:List aI)(hx:bY l x=some (no g off))(hk:(dG ops l gd==some true&&Nat.blt d n&&mX us.length k&&Nat.ble (off+k) vs.length)=true)(he:(vs.drop off).take k=us)(h:wl P ops Q n rest ((d,.agg us.toArray)::l) w):wl P ops Q n (⟨some d,.load T x,ty,pos,af,gd⟩::rest) l w:=by
 rw [eH,eH,eH,beq_iff_eq] at hk
 exact aP hk.1.1.1 hx (aW hT hb us (pG hk.1.2) (Nat.le_of_ble_eq_true hk.2) he) h (hn:=(Nat.le_of_ble_eq_true hk.1.1.2))
theorem so {x y:d7}(hT:AggT P T k)(hb:Bk w g T' vs)(us':List aI)(h0:Ext w0 w)(hg:w0.heap.size≤g)(hx:bY l x=some (no g off))(hy:bY l y=some (.agg us.toArray))(hk:(dG ops l gd==some true&&mX us.length k&&Nat.ble (off+k) vs.length&&us.all (·.oneCell'))=true)(he:gF vs off us=us')(h:∀w',Bk w' g T' us'→Upd g w w'→Ext w0 w'→wl P ops Q n rest l w'):wl P ops Q n (⟨none,.store T x y,ty,pos,af,gd⟩::rest) l w:=by
 rw [eH,eH,eH,beq_iff_eq] at hk
 exact tG hk.1.1.1 hx hy hT (pG hk.1.1.2) hb (Nat.le_of_ble_eq_true hk.1.2) hk.2 us' he fun w' b u _=>h w' b u (u.ext h0 hg)
end
theorem dk {Rs:List (aI→a7→Prop)}{w0 w1:a7}{k:Fr→Prop}{v:aI}{d:Nat}(hR:Rs[j]?=some (Is v))(hd:dF ol j=some d)(h:Deps ol Rs w0 w1 k ds ((d,v)::acc)):Deps ol Rs w0 w1 k (j::ds) acc:=
 aO hR hd fun v' _ hr _ _=>by
  obtain rfl:=hr
  exact h
theorem pf {d:Nat}(g off:Nat)(hk:(dG ops l gd==some true&&jZ l op&&Nat.blt d n)=true)(h:wl P ops Q n rest ((d,no g off)::l) w)(hr:(execOp (rho l) ⟨some d,op,ty,pos,af,gd⟩).run P w= .ok (.value (no g off)) w:=by kernel_rfl):wl P ops Q n (⟨some d,op,ty,pos,af,gd⟩::rest) l w:=pu hk h (hr:=hr)
theorem bq (h:Nat.ble m k=true):m≤k:=Nat.le_of_ble_eq_true h
theorem aL (h:a≤b)(k:Nat.ble b c=true):a≤c:=a6 h (Nat.le_of_ble_eq_true k)
end
abbrev S0:aI:= AT none 0 0
abbrev F0:aI:= BY
abbrev I0:aI:= v4 0
end
section
open Go.ChangeShapes Go.WideShapes Go.ChangeAt Go.RowKit
theorem M9:ownKnob Tryz.prog.godebug=none:=by kernel_rfl
theorem yW:Tryz.prog.cellsOf 36=1:=by kernel_rfl
theorem SK (d:DataW H):1≤Rows.uptoBulk d:=by
 cases d with
 | lit l=>cases l <;> simp [Rows.uptoBulk]
 | nil=>simp [Rows.uptoBulk]
 | ptr d=>simp [Rows.uptoBulk]
 | slice elems spare=>simp [Rows.uptoBulk]
 | agg parts=>simp [Rows.uptoBulk]
 | iface t d=>simp [Rows.uptoBulk]
 | map entries=>simp [Rows.uptoBulk]
 | held h=>simp [Rows.uptoBulk]
theorem GP (l:List (DataW H)):l.length≤Rows.uptoBulkAll l:=by
 induction l with
 | nil=>simp [Rows.uptoBulkAll]
 | cons x r ih=>have:=SK x;simp only [Rows.uptoBulkAll,gD];omega
theorem SJ (elems spare:List (DataW H)):elems.length+spare.length≤Rows.uptoBulk (.slice elems spare):=by
 have f:=GP elems
 have h:=GP spare
 simp only [Rows.uptoBulk]
 omega
theorem SL {l:List (DataW H)}(hk:Rows.uptoSmall H l=true):Rows.uptoBulkAll l≤1048576:=of_decide_eq_true hk
theorem AZ {n:Int}(h:(Lit.int .u64 n).wf=true):0≤n∧n≤18446744073709551615:=by
 simpa [Lit.wf,IntKind.min,IntKind.max,rD,rE] using h
theorem M7 {enc:aU×aI→H}{f:Func}{s:ChangeSpec}{apart fresh handsOn again:Bool}{v:aI}{ds gs:List (DataW H)}{before:List MemPlace}(hW:DataW.Whole enc P f.params.toList s.vars apart W args.toList ds gs before)(hres:∀(b:Nat) (sp:Nat→Bool) (hd:Bool),DataW.TrodAll enc P W' b sp hd f.resultTypes.toList (v.resultList f.resultTypes.size) (s.fn H (ds++gs)).results [])(hargs:∀sp:Nat→Bool,(∀p∈before,sp p.block=true)→DataW.TrodAll enc P W' 0 sp true f.params.toList args.toList (s.fn H (ds++gs)).args pa)(hvars:∀sp:Nat→Bool,(∀p∈before,sp p.block=true)→DataW.TrodVars enc P W' sp s.vars (s.fn H (ds++gs)).vars pv)(hps:before=pa++pv)(hb:Below W.heap.size W W')(hok:∀(j:Nat) (t:aU) (r:aI),f.resultTypes[j]?=some t→(v.resultList f.resultTypes.size)[j]?=some r→Value.okWide P W' .any 0 t r):s.post enc P f apart fresh handsOn again W args v W':=by
 have D:∀p∈before,p.block<W.heap.size:=fun p h=>hW.lt p h
 have o:∀p∈before,(fun b=>decide (b<W.heap.size)) p.block=true:=fun p h=>by simpa using D p h
 refine⟨ds,gs,before,[],pa,pv,hW,hres _ _ _,hargs _ o,hvars _ o,World.keptBut_mono (fun p h=>⟨h,?_⟩) (hb.frame (· ∈before)),fun _=>?_⟩
 ·rw [hps,List.mem_append] at h
  exact bW h
 ·obtain⟨_,_,_,_,_,E,hn⟩:=hW
  refine⟨hok,_,_,([]++pa)++pv,⟨[]++pa,pv,trodAll_append (hargs _ (fun _ _=>rfl)) (hres _ _ _),hvars _ (fun _ _=>rfl),rfl,?_,?_⟩,?_⟩
  ·intro b off h
   have q:MemPlace.cell b off∈before:=by rw [hps];simpa using h
   rw [hb.frozen (D _ q)]
   exact E b off q
  ·intro F
   have:=hn F
   rw [hps] at this
   simpa using this
  ·intro p h _
   rw [hps]
   simpa using h
theorem O0:laidOutB aM=true:=by kernel_rfl
theorem NC:mapsRowed aM=true:=by kernel_rfl
def KR (P:cC):Bool:=(dB P.types.size).all fun t=>match P.underlying t with
 | some (.slice e)=>decide (0<P.cellsOf e)
 | _=>true
theorem KQ:KR aM=true:=by kernel_rfl
theorem KS (ht:t<Tryz.prog.types.size)(hu:Tryz.prog.underlying t=some (.slice e)):0<Tryz.prog.cellsOf e:=by
 have:=eY.1 KQ t (fN.2 ht)
 simpa [hu] using this
theorem KK {enc:aU×aI→H}{v:aI}{d:DataW H}(ht:t<Tryz.prog.types.size)(h:DataW.Trod enc aM W 0 (fun _=>true) true t v d p)(he:Ext W W')(hp:∀q∈p,q.block<W.heap.size){sp:Nat→Bool}(hsp:∀q∈p,sp q.block=true):DataW.Trod enc aM W' 0 sp true t v d p:=by
 obtain⟨n,hn⟩:=h
 exact⟨n,DataW.trod_stays (kids_rows O0 NC) KS (fun h=>by cases h) ht hn (fun q f=>he.below.same (hp q f)) hsp⟩
theorem KJ {enc:aU×aI→H}(he:Ext W W'){sp:Nat→Bool}:∀{ts:List aU}{vs:List aI}{ds:List (DataW H)}{p:List MemPlace},(∀t∈ts,t<Tryz.prog.types.size)→
  DataW.TrodAll enc aM W 0 (fun _=>true) true ts vs ds p→(∀q∈p,q.block<W.heap.size)→(∀q∈p,sp q.block=true)→DataW.TrodAll enc aM W' 0 sp true ts vs ds p:=by
 intro ts
 induction ts with
 | nil=>
  intro vs ds p _ h _ _
  obtain⟨rfl,rfl,rfl⟩:=trodAll_nil h
  exact trodAll_mk0
 | cons t ts ih=>
  intro vs ds p ht h hp hsp
  obtain⟨v,vs',d,ds',p1,p2,rfl,rfl,rfl,h1,h2⟩:=trodAll_cons h
  exact trodAll_cons_mk (KK (ht t (by simp)) h1 he (fun q hq=>hp q (by simp [hq])) (fun q hq=>hsp q (by simp [hq]))) (ih (fun t h=>ht t (by simp [h])) h2 (fun q hq=>hp q (by simp [hq])) (fun q hq=>hsp q (by simp [hq])))
end
section
open Go.RowKit
structure Zl (w:a7)(A:Option aG)(n cap:Nat)(zs:List Int)(ms:List Nat):Prop where
 len:zs.length=n
 mlen:ms.length=n
 le:n≤cap
 max:cap≤maxLen
 get:∀i,i<n→∃a s B c,A=some a∧w.cell? (a.add (i*2))=some (.bool s)∧w.cell? (a.add (i*2+1))=some (AT B (ms.getD i 0) c)∧Zi w s B (ms.getD i 0) c (zs.getD i 0)
theorem Zl.ext (h:Zl w A n cap zs ms)(e:Ext w w'):Zl w' A n cap zs ms:=
 ⟨h.len,h.mlen,h.le,h.max,fun i hi=>by
  obtain⟨a,s,B,c,f,p,o,q⟩:=h.get i hi
  exact⟨a,s,B,c,f,e.cell p,e.cell o,q.ext e⟩⟩
theorem gR:∀(ms:List Nat) (i:Nat),ms.getD i 0≤ms.sum
 | [],i=>by simp
 | m::r,0=>by simp
 | m::r,i+1=>by
  have:=gR r i
  simp only [List.getD_cons_succ,List.sum_cons]
  omega
end
section
open Go.ChangeShapes Go.WideShapes Go.ChangeAt Go.RowKit
theorem GK:Tryz.prog.cellsOf 24=2:=by kernel_rfl
theorem SC:Tryz.prog.cellsOf 22=1:=by kernel_rfl
theorem SF:Tryz.prog.cellsOf 4=1:=by kernel_rfl
theorem R2:∃f0 f1:Field,Tryz.prog.underlying 24=some (.struct #[f0,f1])∧f0.type=4∧f0.offset=0∧f1.type=22∧f1.offset=1:=⟨_,_,Tryz.underlying24,rfl,rfl,rfl,rfl⟩
theorem MD {enc:aU×aI→H}{v:aI}{d:DataW H}(hf:DataW.trod enc aM W 0 (fun _=>true) true fuel 22 [v]=some (d,p)):∃A n cap xs,v= AT A n cap∧Rd W A n cap xs∧n≤Rows.uptoBulk d∧
   ∀W',Ext W W'→∀sp:Nat→Bool,(∀q∈p,sp q.block=true)→∃fuel',DataW.trod enc aM W' 0 sp true fuel' 22 [v]=some (d,p):=by
 rcases open_ints Tryz.underlying22 Tryz.underlying36 yW hf with⟨E,hx⟩ | ⟨a,n',cap',zs,E,_,hl,hm,hz,hx,f,o⟩
 ·obtain rfl:=List.singleton_inj.1 E
  simp only [Prod.mk.injEq] at hx
  obtain⟨rfl,rfl⟩:=hx
  exact⟨none,0,0,[],rfl,Rd.nil W,bJ _,fun W' _ sp _=>by obtain⟨fu,h⟩:=shut_slice_nil (enc:=enc) (w:=W') (base:=0) (spare:=sp) (held:=true) Tryz.underlying22;exact⟨fu,h⟩⟩
 ·obtain rfl:=List.singleton_inj.1 E
  simp only [Prod.mk.injEq] at hx
  obtain⟨rfl,rfl⟩:=hx
  simp only [if_true] at hz
  have F:0<cap'→a.block<W.heap.size:=fun hc=>World.block_lt_of_cell? W (a.add 0) (f 0 (by omega)) |> fun h=>by rwa [sL] at h
  have Y:∀z∈zs,((z.toNat:Nat):Int)=z:=fun z hz'=>Int.toNat_of_nonneg (AZ (o z hz')).1
  have ag:(zs.take n').length=n':=by rw [dK];omega
  refine⟨some a,n',cap',(zs.take n').map Int.toNat,rfl,⟨⟨by simp;omega,hl,hm,fun i hi=>⟨a,rfl,?_⟩,fun b hb hc=>by cases hb;exact F hc⟩,?_⟩,?_,?_⟩
  ·rw [f i (by omega)]
   have D:i<zs.length:=by omega
   have I:zs[i]∈zs:=List.getElem_mem D
   have e:(((zs.take n').map Int.toNat).map aY).getD i undef= AI ((zs[i].toNat:Nat):Int):=by
    simp [bE,fY,show i<n' by omega,cA D]
   rw [e,Y _ I]
   simp [bE,cA D]
  ·intro x hx
   obtain⟨z,U,rfl⟩:=m6.1 hx
   have:=AZ (o z (List.mem_of_mem_take U))
   rw [cI];omega
  ·have:=SJ (H:=H) (lits .u64 (zs.take n')) (lits .u64 (zs.drop n'))
   have e:(lits (H:=H) .u64 (zs.take n')).length=n':=by simp [lits];omega
   omega
  ·intro W' he sp X
   have hcell':∀i,i<zs.length→W'.cell? (a.add i)=some (AI (zs.getD i 0)):=fun i hi=>he.cell (f i hi)
   by_cases Z:zs.length=0
   ·have M:cap'=0:=by omega
    have V:n'=0:=by omega
    subst M;subst V
    have t0:=shut_ints (enc:=enc) (w:=W') (base:=0) (spare:=sp) (held:=true) (a:=a) (len:=0) (cap:=0) (zs:=zs) 0 Tryz.underlying22 Tryz.underlying36 yW (bJ _) (aS _) hm (by simp [Z]) hcell' o
    exact⟨2,t0⟩
   ·have L:sp a.block=true:=X (.cell a.block a.off) (MemPlace.mem_row.2 ⟨0,by omega,by simp⟩)
    have t0:=shut_ints (enc:=enc) (w:=W') (base:=0) (spare:=sp) (held:=true) (a:=a) (len:=n') (cap:=cap') (zs:=zs) 0 Tryz.underlying22 Tryz.underlying36 yW (bJ _) hl hm (by simp [L,hz]) hcell' o
    exact⟨2,t0⟩
theorem R7 {l:List aI}(h:l.length=2):∃a b,l= [a,b]:=by
 match l,h with
 | [a,b],_=>exact⟨a,b,rfl⟩
theorem BF {H:Type}(D:Nat→DataW H)(f:Nat→Nat):∀n,(∀i,i<n→f i+2≤Rows.uptoBulk (D i))→n*2+((dB n).map f).sum≤Rows.uptoBulkAll ((dB n).map D)
 | 0,_=>by simp
 | n+1,h=>by
  have h1:=BF D f n fun i hi=>h i (by omega)
  have h2:=h n (by omega)
  have e:∀l m:List (DataW H),Rows.uptoBulkAll (l++m)=Rows.uptoBulkAll l+Rows.uptoBulkAll m:=fun l m=>by
   induction l with
   | nil=>simp [Rows.uptoBulkAll]
   | cons x l ih=>simp only [pJ,Rows.uptoBulkAll,ih];omega
  rw [List.range_succ,List.map_append,List.map_append,List.sum_append,e]
  simp only [kH,lH,List.sum_cons,List.sum_nil,Rows.uptoBulkAll]
  omega
theorem vB {enc:aU×aI→H}{c0 c1:aI}{x:DataW H×List MemPlace}(h:DataW.trod enc aM W 0 (fun _=>true) true fuel 24 [c0,c1]=some x):∃s A n cap z,c0= .bool s∧c1= AT A n cap∧Zi W s A n cap z∧n+2≤Rows.uptoBulk x.1:=by
 obtain⟨_,f1,I,M,L,t1,E⟩:=R2
 obtain⟨_,q,n,rfl,hl,o,f⟩:=trod_struct2 I h
 rw [M,L,SF] at o
 rw [t1,E,SC] at f
 have F:(([c0,c1]:List aI).drop 0).take 1= [c0]:=rfl
 have D:(([c0,c1]:List aI).drop 1).take 1= [c1]:=rfl
 rw [F] at o
 rw [D] at f
 obtain⟨s,hs,rfl⟩:=DataW.trod_bool Tryz.underlying4 o
 obtain rfl:c0= .bool s:=by simpa using hs
 obtain⟨A,k,cap,xs,rfl,hx,hb,rx⟩:=MD (d:=q.1) (p:=q.2) f
 refine⟨s,A,k,cap,_,rfl,rfl,⟨xs,hx,rfl⟩,?_⟩
 simp only [Rows.uptoBulk,Rows.uptoBulkAll];omega
theorem MC {enc:aU×aI→H}{v:aI}{d:DataW H}(hval:Value.okWide aM W .any base 26 v)(h:DataW.Trod enc aM W 0 (fun _=>true) true 26 v d p):∃A n cap zs ms,v= AT A n cap∧Zl W A n cap zs ms∧n*2+ms.sum≤Rows.uptoBulk d:=by
 obtain⟨A,n,cap,rfl⟩:=okWide_slice Tryz.underlying26 hval
 obtain⟨fuel,hf⟩:=h
 have hf':DataW.trod enc aM W 0 (fun _=>true) true fuel 26 [AT A n cap]=some (d,p):=hf
 rcases Go.Deep.open_slice Tryz.underlying26 hf' with⟨f,hx⟩ | ⟨a,n',cap',m,k,D,Pl,f,_,hl,hm,I,hx,hi⟩
 ·have L:=List.singleton_inj.1 f
  injection L with E M e3
  subst E;subst M;subst e3
  exact⟨none,0,0,[],[],rfl,⟨rfl,rfl,aS _,by decide,fun i hi=>by omega⟩,by simp⟩
 ·have L:=List.singleton_inj.1 f
  injection L with E M e3
  subst E;subst M;subst e3
  simp only [if_true] at I
  have hmm':=I.symm
  subst hmm'
  simp only [Prod.mk.injEq] at hx
  obtain⟨rfl,rfl⟩:=hx
  rw [GK] at hi
  have U:∀i,i<cap→∃(q:Bool×Option aG×Nat×Nat×Int),W.cell? (a.add (i*2))=some (.bool q.1)∧W.cell? (a.add (i*2+1))=some (AT q.2.1 q.2.2.1 q.2.2.2.1)∧Zi W q.1 q.2.1 q.2.2.1 q.2.2.2.1 q.2.2.2.2∧q.2.2.1+2≤Rows.uptoBulk (D i):=by
   intro i X
   obtain⟨cs',hc,ht'⟩:=hi i X
   obtain⟨_,V,F⟩:=World.cells?_some hc
   obtain⟨c0,c1,rfl⟩:=R7 V
   have Y:DataW.trod enc aM W 0 (fun _=>true) true k 24 [c0,c1]=some (D i,Pl i):=ht'
   obtain⟨s,B,nb,c,z,rfl,rfl,hz,hb⟩:=vB Y
   refine⟨(s,B,nb,c,z),?_,?_,hz,hb⟩
   ·have:=F 0 (by simp)
    simpa [Go.Deep.add_add] using this
   ·have:=F 1 (by simp)
    simpa [Go.Deep.add_add] using this
  obtain⟨Q,Z⟩:=Go.Deep.choose_lt U
  refine⟨some a,n,cap,(dB n).map (fun i=>(Q i).2.2.2.2),(dB n).map (fun i=>(Q i).2.2.1),rfl,⟨by simp,by simp,hl,hm,fun i o=>?_⟩,?_⟩
  ·obtain⟨L,h2,h3,_⟩:=Z i (by omega)
   have E:((dB n).map (fun i=>(Q i).2.2.1)).getD i 0=(Q i).2.2.1:=by simp [bE,o]
   have M:((dB n).map (fun i=>(Q i).2.2.2.2)).getD i 0=(Q i).2.2.2.2:=by simp [bE,o]
   rw [E,M]
   exact⟨a,_,_,_,rfl,L,h2,h3⟩
  ·have:=BF D (fun i=>(Q i).2.2.1) n (fun i o=>(Z i (by omega)).2.2.2)
   simp only [Rows.uptoBulk]
   omega
theorem SE:Tryz.prog.cellsOf 25=6:=by kernel_rfl
theorem ME {enc:aU×aI→H}{v:aI}{d:DataW H}(hval:Value.okWide aM W .any base 25 v)(h:DataW.Trod enc aM W 0 (fun _=>true) true 25 v d p):∃sa Aa na ca sb Ab nb cb sd Ad nd cd x y t,v= .agg #[.bool sa,AT Aa na ca,.bool sb,AT Ab nb cb,.bool sd,AT Ad nd cd]∧Zi W sa Aa na ca x∧Zi W sb Ab nb cb y∧Zi W sd Ad nd cd t∧na+nb+nd≤Rows.uptoBulk d:=by
 simp only [Value.okWide,Tryz.underlying25] at hval
 obtain⟨cs,rfl,I,_⟩:=hval
 rw [SE] at I
 obtain⟨c0,c1,E,o,D,q,rfl⟩:∃c0 c1 E o D q,cs= #[c0,c1,E,o,D,q]:=by
  rcases cs with⟨l⟩
  match l,I with
  | [c0,c1,E,o,D,q],_=>exact⟨c0,c1,E,o,D,q,rfl⟩
 obtain⟨fuel,hf⟩:=h
 have hf':DataW.trod enc aM W 0 (fun _=>true) true fuel 25 [c0,c1,E,o,D,q]=some (d,p):=hf
 obtain⟨xs,m,rfl,hx,hl,F,f⟩:=DataW.trod_array Tryz.underlying25 hf'
 match xs,F with
 | [y0,y1,y2],_=>
  have U:=f 0 (by decide)
  have M:=f 1 (by decide)
  have L:=f 2 (by decide)
  rw [GK] at U M L
  obtain⟨Y,A0,n0,k0,X,rfl,rfl,V,_⟩:=vB (c0:=c0) (c1:=c1) (x:=y0) U
  obtain⟨s1,A1,n1,k1,z1,rfl,rfl,Z,_⟩:=vB (c0:=E) (c1:=o) (x:=y1) M
  obtain⟨s2,A2,n2,k2,z2,rfl,rfl,q2,_⟩:=vB (c0:=D) (c1:=q) (x:=y2) L
  simp only [Prod.mk.injEq] at hx
  obtain⟨rfl,rfl⟩:=hx
  refine⟨Y,A0,n0,k0,s1,A1,n1,k1,s2,A2,n2,k2,X,z1,z2,rfl,V,Z,q2,?_⟩
  simp only [kH,lH,Rows.uptoBulk,Rows.uptoBulkAll];omega
end
section
open Go.RowKit
theorem UpdO.of (h:w.grownBy w' none):UpdO A w w':=⟨⟨h.os,h.tape,h.output,h.size,fun k f _=>h.block k f (by simp)⟩⟩
theorem Upd.updO (h:Upd g w w'){o:Nat}{x:_}:UpdO (some ⟨g,o,x⟩) w w':=⟨h.by_⟩
theorem CZ (hv:cs.take k=vs)(hk:k≤cs.length):(gF cs k us).take (k+us.length)=vs++us:=by
 unfold gF
 have e:(cs.take k++us).length=k+us.length:=by rw [fH,dK,gL hk]
 rw [←e,List.take_left',hv]
 rfl
def sV (w:a7)(A A':Option aG):Prop:=∀a',A'=some a'→(∃a,A=some a∧a'.block=a.block)∨w.heap.size≤a'.block
section
variable {P:cC}
theorem xD {z:aI}{s:Nat}(ht:P.underlying t=some (.slice e))(hinfo:(P.info? e).map (fun i=>(i.zero,i.size,i.bytes))=some (some z,s,bytes))(hzs:z.cells.size=s)(hsz:0<s)(hby:bytes≤64){xs:List aI}(hown:Own w base e s A n cap xs)(hb:base≤w.heap.size){a:aG}(hl:news.length=m*s)(hnews:∀j u,news[j]?=some u→w.cell? (a.add j)=some u)(h1:news.all (·.oneCell')=true)(hm:n+m≤1099511627776):∃A' cap' w',(o4 #[t,t] ty #[AT A n cap,AT (some a) m c]).run P w= .ok (AT A' (n+m) cap') w'∧Own w' base e s A' (n+m) cap' (xs++news)∧UpdO A w w'∧sV w A A':=by
 obtain⟨i,hi,Z,o,F⟩:=info_parts hinfo
 have h1':∀u∈news,u.oneCell'=true:=by simpa [eY] using h1
 have D:n+m≤maxLen:=by rw [eB];omega
 have h:(n+m)*bytes≤140737488355328:=by
  have:(n+m)*bytes≤1099511627776*64:=kE hm hby
  omega
 rcases hown with⟨rfl,rfl,rfl,rfl⟩ | ⟨g,cs,rfl,hg,Y,hn,M,U,I⟩
 ·obtain⟨v',w',hr,V,L,_⟩:=run_append_own (P:=P) w w.heap.size t ty e i z s bytes ht hi Z o F hzs hsz (AT none 0 0) 0 [] (World.ownsRow_nil w _ e s) a m c news hl hnews h1' D h (aS _)
  obtain⟨A',cap',rfl,p⟩:=Own.of_row V
  exact⟨A',cap',w',hr,p.mono hb,UpdO.of L,fun a' E=>bW (p.block a' E).1⟩
 ·by_cases f:n+m≤cap
  ·have aa:n*s+news.length≤cs.length:=by rw [hl,U,←dV];exact eA s f
   obtain⟨w',X,q,hu,hs⟩:=tK (P:=P) news 0 (n*s) w cs Y (by omega) h1'
   rw [eI] at q
   have H:=run_firstCells_some (P:=P) w i.size m a m c news (by rw [o];exact hl) hnews
   rw [o] at H
   refine⟨some ⟨g,0,none⟩,cap,w',?_,bW ⟨g,_,rfl,hg,q,f,M,?_,?_⟩,hu.updO,fun a' E=>bS ⟨_,rfl,by cases E;rfl⟩⟩
   ·simp [o4,qR ht,sizeOf,typeInfo,hi,wI,f,H,Addr.add_lit,o,X]
   ·unfold gF
    simp only [fH,dK,mY]
    omega
   ·rw [dV,←hl]
    exact CZ I (by omega)
  ·have hx:=I
   obtain⟨v',w',hr,V,L⟩:=run_append_arg_grows (P:=P) w t ty e i z s bytes ht hi Z o F hzs hsz ⟨g,0,none⟩ n cap xs
    (by rw [←I,dK];have:=eA s hn;omega)
    (fun j u hj=>by
     have W:=(fD.1 hj).1
     rw [fL,eX,Y.cell (by rw [←I,dK] at W;omega)]
     rw [←I,jO] at hj
     split at hj
     ·rw [bE,hj];rfl
     ·cases hj) a m c news hl hnews (by omega) D h
   obtain⟨A',cap',rfl,p⟩:=Own.of_row V
   exact⟨A',cap',w',hr,p.mono hb,UpdO.of L,fun a' E=>bW (p.block a' E).1⟩
variable {Q:dQ→Act→a7→Prop}{n:Nat}{l:Fr}{w:a7}{ops:Array aZ}{rest:List aZ}{d:Nat}{ty:aU}{pos:String}{af:Array fO}{gd:Option (Nat×Bool)}
theorem mC {x y:d7}{z:aI}{s:Nat}{a:aG}{xs:List aI}(hw:dG ops l gd=some true)(hx:bY l x=some (AT A k cap))(hy:bY l y=some (AT (some a) m c))(ht:P.underlying t=some (.slice e))(hinfo:(P.info? e).map (fun i=>(i.zero,i.size,i.bytes))=some (some z,s,bytes))(hzs:z.cells.size=s)(hown:Own w base e s A k cap xs)(hb:base≤w.heap.size)(news:List aI)(hl:news.length=m*s)(hnews:∀j u,news[j]?=some u→w.cell? (a.add j)=some u)(h1:news.all (·.oneCell')=true)(h:∀A' cap' w',Own w' base e s A' (k+m) cap' (xs++news)→UpdO A w w'→sV w A A'→wl P ops Q n rest ((d,AT A' (k+m) cap')::l) w')(hsz:0<s:=by decide)(hby:bytes≤64:=by decide)(hm:k+m≤1099511627776:=by omega)(hn:d<n:=by decide):wl P ops Q n (⟨some d,.call {callee:= .builtin .append,args:= #[x,y],argTypes:= #[t,t]},ty,pos,af,gd⟩::rest) l w:=by
 obtain⟨A',cap',w',hr,p,o,q⟩:=xD (P:=P) (ty:=ty) ht hinfo hzs hsz hby hown hb hl hnews h1 hm
 refine gU hw hn (fun a' f=>?_) (h A' cap' w' p o q)
 unfold execOp
 simp only [resolve,invoke,builtin,dA,gT,eW,pI,kH,lH,f.ev hx,f.ev hy]
 rw [hr]
 rfl
end
theorem Own.updOT {s s':Nat}(h:Own w b t s A n cap vs)(ho:Own w b' T s' B m c us)(hT:t≠T)(x:UpdO B w w'):Own w' b t s A n cap vs:=by
 refine h.updO x (fun p q o f D=>?_)
 rcases ho with⟨F,_⟩ | ⟨k,cs,L,_,E,_⟩
 ·rw [F] at o;cases o
 ·rcases h with⟨I,_⟩ | ⟨k',cs',H,_,hk',_⟩
  ·rw [I] at f;cases f
  ·rw [L] at o;rw [H] at f
   cases o;cases f
   simp only at D
   subst D
   unfold Bk at E hk'
   rw [E] at hk'
   injection hk' with hk'
   injection hk' with e1 e2
   exact hT e2.symm
theorem MG (v:aI)(h:Bk w g T [v]):∀j u,[v][j]?=some u→w.cell? ((⟨g,0,none⟩:aG).add j)=some u:=by
 intro j u hj
 have f:=(fD.1 hj).1
 rw [fL,eX,h.cell f,bE,hj];rfl
theorem BO (A:Option aG)(c k:Nat):nY (if c=0 then A else A.map (·.add (0*1))) (k-0) (c-0)= AT A k c:=by
 have f:A.map (·.add (0*1))=A:=by
  cases A with
  | none=>rfl
  | some a=>simp [lJ]
 rw [f,ite_self];rfl
theorem jT:Tryz.prog.underlying 39=some (.slice 22):=by kernel_rfl
theorem lL (w:a7):(sizeOf 22).run aM w= .ok 1 w:=by kernel_rfl
theorem oX (w:a7):(isAgg 22).run aM w= .ok false w:=by kernel_rfl
theorem qB:(Tryz.prog.info? 22).map (fun i=>(i.zero,i.size,i.bytes))=some (some (AT none 0 0),1,24):=by kernel_rfl
theorem qC:(Tryz.prog.info? 3).map (fun i=>(i.zero,i.size,i.bytes))=some (some (v4 0),1,8):=by kernel_rfl
abbrev I6 (x:Nat):aI:= v4 (x:Int)
theorem oK (xs:List Nat)(i x:Nat):(xs.map I6).set i (v4 (x:Int))=(xs.set i x).map I6:=by rw [List.map_set]
theorem tS (n:Nat):dL n (gK .i64 0)=(dL n 0).map I6:=by rw [List.map_replicate];rfl
structure Ri (b:Nat)(w:a7)(A:Option aG)(n cap:Nat)(ds:List Nat):Prop where
 rv:Rv w 1 A n cap (ds.map I6)
 wf:Wfb b ds
theorem Ri.ext (h:Ri b w A n cap xs)(e:Ext w w'):Ri b w' A n cap xs:=⟨h.rv.ext e,h.wf⟩
theorem Ri.len (h:Ri b w A n cap xs):xs.length=n:=by simpa using h.rv.len
theorem Ri.get (hb:0<b)(h:Ri b w A n cap xs)(hi:i<n):∃a x,A=some a∧Hid (xs.getD i 0=x)∧x<b∧w.cell? (a.add i)=some (v4 (x:Int)):=by
 obtain⟨a,f,o⟩:=h.rv.get i (by omega)
 have hl:i<xs.length:=by rw [h.len];exact hi
 refine⟨a,_,f,rfl,j8 h.wf i (hb:=hb),?_⟩
 rw [o]
 simp [bE,fY,cA hl]
theorem Bk.digit (hb:0<b)(h:Bk w g t (xs.map I6))(hw:Wfb b xs)(hi:i<xs.length):∃x,Hid (xs.getD i 0=x)∧x<b∧w.cell? ⟨g,i,none⟩=some (v4 (x:Int)):=by
 refine⟨_,rfl,j8 hw i (hb:=hb),?_⟩
 rw [h.cell (by simpa using hi)]
 simp [bE,fY,cA hi]
theorem Bk.ri (h:Bk w g t (xs.map I6))(hw:Wfb b xs){o:Nat}(hn:n≤cap)(hc:o+cap≤xs.length)(hm:cap≤maxLen):Ri b w (some ⟨g,o,none⟩) n cap ((xs.drop o).take n):=by
 refine⟨?_,jM (zA hw _) _⟩
 rw [kG,List.map_drop]
 exact h.rv hn (by simpa using hc) hm
theorem Rv.take {s:Nat}(h:Rv w s A n cap vs)(hk:k≤n)(hm:k≤m)(hc:m≤cap):Rv w s A k m (vs.take (k*s)):=by
 have:=h.cut (l:=0) (bJ _) hk hm hc
 simp only [Nat.sub_zero,Nat.zero_mul,i9] at this
 have e:(if m=0 then A else A.map (·.add 0))=A:=by
  have f:∀a:aG,a.add 0=a:=fun a=>by simp [lJ]
  split
  ·rfl
  ·cases A <;> simp [f]
 rwa [e] at this
theorem Own.take {s:Nat}(h:Own w base t s A n cap vs)(hk:k≤n):Own w base t s A k cap (vs.take (k*s)):=by
 rcases h with⟨rfl,rfl,rfl,rfl⟩ | ⟨g,cs,rfl,hb,f,hn,hm,hl,rfl⟩
 ·exact bS ⟨rfl,by omega,rfl,by simp⟩
 ·refine bW ⟨g,cs,rfl,hb,f,by omega,hm,hl,?_⟩
  rw [List.take_take,gL (eA s hk)]
def zH (w:a7)(m:Nat)(e:dM)(w':a7):Prop:=
 ∃A n cap,e= .returned (AT A n cap)∧Hid (n=(db 65536 m).length)∧Ri 65536 w' A n cap (db 65536 m)∧Own w' w.heap.size 3 1 A n cap ((db 65536 m).map I6)∧Ext w w'
theorem gA:2≤65536:=by decide
theorem qM:WB=65536^4:=by decide
def TL (A:Option aG)(n cap:Nat)(m:Nat)(w:a7)(e:dM)(w':a7):Prop:=
 ∃k:Nat,Hid (k=(db 65536 m).length)∧k≤n∧e= .returned (AT A k cap)∧w=w'
theorem CK (hx:Ri 65536 w A n cap ds)(hl:n≤1099511627776):aQ aM 92 #[AT A n cap] w (TL A n cap (nb 65536 ds) w):=by
 have hlen:=Lib.hid hx.len
 have hcap:=hx.rv.le
 go_enter Tryz.func92,Tryz.ntmps92
 go_wp2_with fail
 go_loop [3] (fun u=>∃k:Nat,k≤n∧u= v4 (k:Int)∧nb 65536 (ds.take k)=nb 65536 ds) (fun u=>(intOf u).toNat)
 case atStart=>exact⟨n,aS _,rfl,by rw [←hlen.out,List.take_length]⟩
 case round=>
  obtain⟨k,hk,rfl,hv⟩:=hrel
  have HV:=Lib.hid hv
  clear hv
  by_cases h0:0<k
  ·obtain⟨a,x,rfl,hxk,hxb,hc⟩:=hx.get (by omega) (i:=k-1) (by omega)
   by_cases hz:x=0
   ·subst hz
    go_wp2_with fail
    go_round
    case rel=>
     refine⟨k-1,by omega,by congr 1;omega,?_⟩
     rw [←HV.out,←xS 65536 ds (k-1) (by rw [hlen.out];omega) hxk.out,iV h0]
    case measure=>simp [intOf];omega
   ·have hzb:((x:Int)==0)=false:=by simp;omega
    go_wp2_with fail
    go_ret
    refine⟨k,?_,hk,?_,rfl⟩
    ·have:=uW gA (k:=k) hx.wf (by rw [hlen.out];exact hk) HV.out (bW (by rw [hxk.out];exact hz))
     show k=_
     rw [this,dK,hlen.out];omega
    ·rfl
  ·go_wp2_with fail
   go_ret
   refine⟨k,?_,hk,?_,rfl⟩
   ·have:=uW gA (k:=k) hx.wf (by rw [hlen.out];exact hk) HV.out (bS (by omega))
    show k=_
    rw [this,dK,hlen.out];omega
   ·rfl
theorem KL {x w:Nat}(hl:ds.length=n)(h:nb 65536 ds+65536^n*w=x):nb 65536 (ds++ [w%65536])+65536^(n+1)*(w/65536)=x:=by
 rw [DB,hl,dJ,bZ,Nat.add_assoc,←cS,jN]
 exact h
theorem pX (hx:Rd w A n cap xs)(hl:n≤274877906943):aQ aM 64 #[AT A n cap] w (zH w (nv xs)):=by
 have hlx:=Lib.hid hx.len
 have hmk:=C6 (P:=aM) Tryz.underlying81 qC G (by decide) (4*(n:Int)) (by omega) (by omega)
 have et:(4*(n:Int)).toNat=4*n:=by omega
 rw [et] at hmk
 clear et
 go_enter Tryz.func64,Tryz.ntmps64
 go_wp2_with fail
 clear hmk
 obtain⟨g,hg⟩:∃g,w.heap.size=g:=⟨_,rfl⟩
 rw [hg]
 obtain⟨wa,hwa⟩:∃wa,w.alloc (.cells (zc (.int .i64 0) (4*n)) 3)=wa:=⟨_,rfl⟩
 rw [hwa]
 have hoa:Own wa w.heap.size 3 1 (some ⟨g,0,none⟩) 0 (4*n) (([]:List Nat).map I6):=by
  rw [←hwa,←hg]
  exact Own.mk_ (cs:=dL (4*n) (v4 0)) (aS _) (Bk.new' _ _ _) (by omega) (by rw [eB];omega) (by simp) (by simp)
 have hea:Ext w wa:=by rw [←hwa];exact (Ext.refl w).alloc _
 clear hg hwa
 go_loopw [4,3] (fun u v wr=>∃(i:Nat) (A':Option aG) (c':Nat) (ds:List Nat),i≤n∧u= v4 (i:Int)∧v= AT A' (4*i) c'∧Own wr w.heap.size 3 1 A' (4*i) c' (ds.map I6)∧Wfb 65536 ds∧
  Hid (ds.length=4*i)∧Hid (nb 65536 ds=nv (xs.take i))∧Ext w wr) (fun u v wr=>n-(intOf u).toNat)
 case atStart=>exact⟨0,_,_,[],bJ _,rfl,rfl,hoa,TH _,rfl,rfl,hea⟩
 case round=>
  obtain⟨i,A',c',ds,hi,rfl,rfl,ho,hw,hdl,hv,hr⟩:=hrel
  clear hoa hea
  by_cases him:i<n
  ·obtain⟨a,x,rfl,hxk,hxb,hcx⟩:=(hx.ext hr).get (i:=i) (by omega)
   go_wp2_with fail
   obtain⟨wo,rfl⟩:∃wo:a7,wo=wr:=⟨_,rfl⟩
   go_loopw [6,3,5] (fun u v y wr=>∃(k:Nat) (A':Option aG) (c':Nat) (ds:List Nat) (q:Nat),k≤4∧u= v4 (k:Int)∧v= AT A' (4*i+k) c'∧y= AI (q:Int)∧q≤18446744073709551615∧Own wr w.heap.size 3 1 A' (4*i+k) c' (ds.map I6)∧Wfb 65536 ds∧
    Hid (ds.length=4*i+k)∧Hid (nb 65536 ds+65536^(4*i+k)*q=nv (xs.take (i+1)))∧Hid (q*65536^k<WB)∧Ext w wr) (fun u v y wr=>4-(intOf u).toNat)
   case atStart=>
    refine⟨0,_,_,ds,x,bJ _,rfl,rfl,rfl,hxb,ho,hw,hdl,?_,?_,hr⟩
    ·show _=_
     rw [hv.out,eE xs i (by rw [hlx.out];omega),hxk.out,qM,←Nat.pow_mul];rfl
    ·show _<_
     rw [cI];omega
   case round=>
    obtain⟨k,A2,c2,es,q,hk,rfl,rfl,rfl,hqb,ho2,hw2,hel,hev,hq,hr2⟩:=hrel
    clear ho hw hdl hv
    by_cases hk4:k<4
    ·have r1:(4*i+k+1)*8≤140737488355328:=by omega
     go_wp2_with ((with_reducible refine dE (some 30) ?_);refine AO G (.tmp 25) (.tmp 29) 81 G G G Tryz.underlying81 qC G (by decide) (ho2.ext (aD.alloc _)) (Rv.one _ _ _) (by simp [Value.oneCell']) r1 (by rw [eB];omega) (by have:=hr2.size;simp;omega) ?_;intro A3 c3 w3 ho3 hu3 _)
     have he3:Ext w w3:=hu3.ext (hr2.alloc _) (fun p hp=>(ho2.block p hp).1)
     go_roundw
     case rel=>
      refine⟨k+1,A3,c3,es++ [q%65536],q/65536,by omega,by go_num,rfl,by go_num,by omega,?_,TI hw2 (TG (by omega)),?_,KL hel.out hev.out,?_,he3⟩
      ·have:(es++ [q%65536]).map I6=es.map I6++ [v4 ((q:Int)%65536)]:=by simp
       rw [this];exact ho3
      ·show _=_
       rw [fH,hel.out];rfl
      ·show _<_
       have h2:q/65536*65536≤q:=Nat.div_mul_le_self q 65536
       calc q/65536*65536^(k+1)=(q/65536*65536)*65536^k:=by rw [dJ,cM (65536^k),bZ]
        _≤q*65536^k:=eA _ h2
        _<WB:=hq.out
     case measure=>simp [intOf];omega
    ·obtain rfl:k=4:=by omega
     have hq0:q=0:=by
      have h:=hq.out
      rw [cI] at h
      omega
     go_wp2_with fail
     go_roundw
     case rel=>
      refine⟨i+1,A2,c2,es,by omega,by go_num,rfl,ho2,hw2,hel.out,?_,hr2⟩
      show _=_
      have h:=hev.out
      rw [hq0,fX,eI] at h
      exact h
     case measure=>simp [intOf];omega
  ·obtain rfl:i=n:=by omega
   have hri:Ri 65536 wr A' (4*i) c' ds:=⟨ho.rv,hw⟩
   go_wp2_with fail
   refine (CK hri (by omega)).mono ?_
   rintro e w' ⟨k,hk,hkn,rfl,rfl⟩
   go_wp2_with fail
   go_ret
   have e:nb 65536 ds=nv xs:=by rw [hv.out,←hlx.out,List.take_length]
   have e2:=yT gA hw hk.out
   rw [e] at e2
   have hot:=ho.take hkn
   rw [eG,←kG,←e2] at hot
   refine⟨A',k,c',rfl,?_,⟨hot.rv,qL gA _⟩,hot,hr⟩
   show _=_
   rw [hk.out,e]
theorem xI (hx:Ri 65536 w A n cap ds)(hl:n≤1099511627775):aQ aM 65 #[AT A n cap] w (j9 w (nb 65536 ds)):=by
 go_enter Tryz.func65,Tryz.ntmps65
 go_wp2_with fail
 refine (CK hx (by omega)).mono ?_
 rintro e w' ⟨k,hk,hkn,rfl,rfl⟩
 obtain⟨es,hes⟩:∃es,es=db 65536 (nb 65536 ds):=⟨_,rfl⟩
 have hes2:es=ds.take k:=by rw [hes];exact yT gA hx.wf hk.out
 have hlen:=Lib.hid hx.len
 have he:Ri 65536 w A k cap es:=by
  have h:=hx.rv.take (k:=k) (m:=cap) hkn (by have:=hx.rv.le;omega) (aS _)
  rw [eG,←kG,←hes2] at h
  exact⟨h,by rw [hes2];exact jM hx.wf _⟩
 have hel:=Lib.hid he.len
 have hval:Hid (nb 65536 es=nb 65536 ds):=by show _=_;rw [hes,j1 gA]
 have htop:Hid (k=0∨65536^(k-1)≤nb 65536 ds):=by
  by_cases h0:nb 65536 ds=0
  ·left
   have h:=hk.out
   rw [h0,mO] at h
   exact h
  ·right
   have:=M4 gA h0
   rwa [←hk.out] at this
 clear hes hes2 hk
 have hmk:=C6 (P:=aM) Tryz.underlying22 iG G (by decide) ((k:Int)/4+1) (by omega) (by omega)
 have et:((k:Int)/4+1).toNat=k/4+1:=by omega
 rw [et] at hmk
 clear et
 go_wp2_with fail
 clear hmk
 obtain⟨g,hg⟩:∃g,w.heap.size=g:=⟨_,rfl⟩
 rw [hg]
 obtain⟨wa,hwa⟩:∃wa,w.alloc (.cells (zc (.int .u64 0) (k/4+1)) 36)=wa:=⟨_,rfl⟩
 rw [hwa]
 have hoa:Own wa w.heap.size 36 1 (some ⟨g,0,none⟩) 0 (k/4+1) (([]:List Nat).map aY):=by
  rw [←hwa,←hg]
  exact Own.mk_ (cs:=dL (k/4+1) (AI 0)) (aS _) (Bk.new' _ _ _) (by omega) (by rw [eB];omega) (by simp) (by simp)
 have hea:Ext w wa:=by rw [←hwa];exact (Ext.refl w).alloc _
 clear hg hwa
 go_loopw [4,3] (fun u v wr=>∃(i:Nat) (A':Option aG) (c':Nat) (ws:List Nat),4*i≤k+3∧u= v4 (4*(i:Int))∧v= AT A' i c'∧Own wr w.heap.size 36 1 A' i c' (ws.map aY)∧Wf ws∧
  Hid (ws.length=i)∧Hid (nv ws=nb 65536 (es.take (4*i)))∧Ext w wr) (fun u v wr=>k+4-(intOf u).toNat)
 case atStart=>exact⟨0,_,_,[],by omega,rfl,rfl,hoa,HA,rfl,rfl,hea⟩
 case round=>
  obtain⟨i,A',c',ws,hi,rfl,rfl,ho,hw,hwl,hv,hr⟩:=hrel
  clear hoa hea
  by_cases him:4*i<k
  ·go_wp2_with fail
   obtain⟨wo,rfl⟩:∃wo:a7,wo=wr:=⟨_,rfl⟩
   go_loop [6,5] (fun u v=>∃(j q:Nat),j≤4∧u= v4 ((j:Int)-1)∧v= AI (q:Int)∧Hid (q=nb 65536 ((es.drop (4*i+j)).take (4-j)))) (fun u v=>(intOf u+1).toNat)
   case atStart=>exact⟨4,0,aS _,rfl,rfl,by simp [Hid,nb]⟩
   case round=>
    obtain⟨j,q,hj,rfl,rfl,hq⟩:=hrel
    have hqlt:q<65536^(4-j):=by
     rw [hq.out]
     have h1:=nI (jM (zA he.wf (4*i+j)) (4-j))
     have h2:65536^(List.take (4-j) (List.drop (4*i+j) es)).length≤65536^(4-j):=i6 (by omega) (by rw [dK];omega)
     omega
    by_cases hj0:0<j
    ·have hqb:q≤281474976710655:=by
      have:(65536:Nat)^(4-j)≤65536^3:=i6 (by omega) (by omega)
      omega
     clear hqlt
     have hstep:Hid (es.getD (4*i+(j-1)) 0+65536*q=nb 65536 ((es.drop (4*i+(j-1))).take (4-(j-1)))):=by
      show _=_
      have e2:4-(j-1)=(4-j)+1:=by omega
      have e3:4*i+(j-1)+1=4*i+j:=by omega
      rw [e2,DC,e3,hq.out]
     by_cases hin:4*i+(j-1)<k
     ·obtain⟨a,x,rfl,hxk,hxb,hcx⟩:=(he.ext hr).get (by omega) (i:=4*i+(j-1)) (by omega)
      have hin':4*(i:Int)+((j:Int)-1)<(k:Int):=by omega
      go_wp2_with fail
      go_round
      case rel=>exact⟨j-1,x+65536*q,by omega,eP,eP,by show _=_;rw [←hstep.out,hxk.out]⟩
      case measure=>simp [intOf];omega
     ·have hin':¬4*(i:Int)+((j:Int)-1)<(k:Int):=by omega
      go_wp2_with fail
      go_round
      case rel=>exact⟨j-1,65536*q,by omega,eP,eP,by show _=_;rw [←hstep.out,bE,gM (by rw [hel.out];omega)];simp⟩
      case measure=>simp [intOf];omega
    ·obtain rfl:j=0:=by omega
     have hqW:q<WB:=by rw [qM];exact hqlt
     clear hqlt
     have r1:(i+1)*8≤140737488355328:=by omega
     go_wp2_with ((with_reducible refine dE (some 44) ?_);refine AO G (.tmp 41) (.tmp 43) 22 G G G Tryz.underlying22 iG G (by decide) (ho.ext (aD.alloc _)) (Rv.one _ _ _) (by simp [Value.oneCell']) r1 (by rw [eB];omega) (by have:=hr.size;simp;omega) ?_;intro A3 c3 w3 ho3 hu3 _)
     have he3:Ext w w3:=hu3.ext (hr.alloc _) (fun p hp=>(ho.block p hp).1)
     go_roundw
     case rel=>
      refine⟨i+1,A3,c3,ws++ [q],by omega,eP,rfl,?_,sP hw (zB hqW),?_,?_,he3⟩
      ·have:(ws++ [q]).map aY=ws.map aY++ [AI (q:Int)]:=by simp
       rw [this];exact ho3
      ·show _=_
       rw [fH,hwl.out];rfl
      ·show _=_
       rw [D5,hwl.out,hv.out,show 4*(i+1)=4*i+4 from by omega,DA 65536 es (4*i) 4 (by rw [hel.out];omega),hq.out,qM,←Nat.pow_mul]
       rfl
     case measure=>simp [intOf];omega
  ·go_wp2_with fail
   go_ret
   have e1:nv ws=nb 65536 ds:=by rw [hv.out,List.take_of_length_le (by rw [hel.out];omega),hval.out]
   have e2:wd (nv ws)=ws:=by
    refine B3 hw ?_
    rw [hwl.out,e1]
    by_cases h0:i=0
    ·exact bS h0
    ·refine bW ?_
     rcases htop.out with h | h
     ·omega
     ·refine a6 ?_ h
      rw [qM,←Nat.pow_mul]
      exact i6 (by omega) (by omega)
   rw [←e1]
   rw [←e2] at ho
   refine⟨A',i,c',rfl,?_,ho.rd (by rw [e2];exact hw),ho,hr⟩
   show _=_
   rw [e2,hwl.out]
theorem UpdO.refl (A:Option aG)(w:a7):UpdO A w w:=⟨zL _ _⟩
theorem Own.at1 {f:Nat→aI}(h:Own w lb T 1 A n c (xs.map f))(hi:i<n):∃p,A.map (·.add (i*1))=some p∧w.cell? p=some (f (xs.getD i 0)):=by
 have hl:=h.rv.len
 rw [List.length_map,eG] at hl
 obtain⟨a,rfl,o⟩:=h.rv.get i (by omega)
 refine⟨a.add i,by rw [eG];rfl,?_⟩
 rw [o]
 simp [bE,fY,cA (show i<xs.length by omega)]
theorem CV {f:Nat→aI}(h:Own w b T 1 A n c (l.map f)):l.length=n:=by have:=h.rv.len;rwa [List.length_map,eG] at this
theorem Own.take1 {f:Nat→aI}(h:Own w lb T 1 A n c (xs.map f))(hk:k≤n):Own w lb T 1 A k c ((xs.take k).map f):=by
 have:=h.take hk
 rwa [eG,←kG] at this
theorem M8 {f:Nat→aI}(h:Own w lb T 1 A n c (xs.map f)){u:Nat}(hi:i<n)(h1:(f u).oneCell'=true)(hcl:(f u).cells= #[f u])(hT:∀w,(sizeOf T').run P w= .ok 1 w){p:aG}(hp:A.map (·.add (i*1))=some p):∃w',(storeVar T' p (f u)).run P w= .ok () w'∧Own w' lb T 1 A n c ((xs.set i u).map f)∧UpdO A w w':=by
 rcases h with⟨_,rfl,_,_⟩ | ⟨g,cs,rfl,hb,E,hn,hm,hl,q⟩
 ·omega
 ·rw [Option.map_some,eF,eG,fL,eX] at hp
  subst hp
  rw [eG] at hl q
  obtain⟨w',hr,o,D,_⟩:=tQ (P:=P) (v:=f u) hT hcl E (show i<cs.length by omega) h1 _ rfl
  refine⟨w',hr,bW ⟨g,_,rfl,hb,o,hn,hm,by rw [List.length_set,hl,eG],?_⟩,D.updO⟩
  rw [eG,List.take_set,q,List.map_set]
section
variable {P:cC}{Q:dQ→Act→a7→Prop}{n:Nat}{l:Fr}{w:a7}{ops:Array aZ}{rest:List aZ}{d:Nat}{ty:aU}{pos:String}{af:Array fO}{gd:Option (Nat×Bool)}
end
structure UpU (lb:Nat)(w w':a7):Prop where
 os:w'.os=w.os
 tape:w'.tape=w.tape
 output:w'.output=w.output
 size:w.heap.size≤w'.heap.size
 low:∀k,k<lb→k<w.heap.size→w'.heap[k]?=w.heap[k]?
 typ:∀(k:Nat) (cs:Array aI) (t:aU) (fr:Nat×Nat),w.heap[k]?=some (.cells cs t fr)→t≠36→w'.heap[k]?=some (.cells cs t fr)
section
variable {lb:Nat}{a b c w w':a7}
theorem UpU.refl (lb:Nat)(w:a7):UpU lb w w:=⟨rfl,rfl,rfl,aS _,fun _ _ _=>rfl,fun _ _ _ _ h _=>h⟩
theorem UpU.trans (h:UpU lb a b)(e:UpU lb b c):UpU lb a c:=
 ⟨e.os.trans h.os,e.tape.trans h.tape,e.output.trans h.output,a6 h.size e.size,fun k o hs=>(e.low k o (d4 hs h.size)).trans (h.low k o hs),fun k cs t fr p f=>e.typ k cs t fr (h.typ k cs t fr p f) f⟩
theorem UpU.of_ext (lb:Nat)(e:Ext w w'):UpU lb w w':=⟨e.below.os,e.below.tape,e.below.output,e.size,fun k _ hs=>e.below.block k hs,fun _ _ _ _ f _=>e.heap f⟩
theorem UpU.then_ext (h:UpU lb a b)(e:Ext b c):UpU lb a c:=h.trans (UpU.of_ext lb e)
theorem UpU.ext (h:UpU lb w w')(e:Ext a w)(hl:a.heap.size≤lb):Ext a w':=
 ⟨⟨h.os.trans e.below.os,h.tape.trans e.below.tape,h.output.trans e.below.output,a6 e.size h.size,fun k f=>(h.low k (d4 f hl) (d4 f e.size)).trans (e.below.block k f)⟩⟩
theorem UpU.bk (h:UpU lb w w')(hb:Bk w g t vs)(h1:t≠36):Bk w' g t vs:=h.typ g _ _ _ hb h1
theorem UpU.own {s:Nat}(h:UpU lb w w')(ho:Own w base t s A n cap vs)(h1:t≠36):Own w' base t s A n cap vs:=by
 rcases ho with ho | ⟨g,cs,f,hb,o,r⟩
 ·exact bS ho
 ·exact bW ⟨g,cs,f,hb,h.bk o h1,r⟩
theorem UpU.ofO {s:Nat}(ho:Own w lb 36 s A n cap vs)(u:UpdO A w w'):UpU lb w w':=by
 refine⟨u.by_.os,u.by_.tape,u.by_.output,u.size,fun k q hs=>?_,fun k cs t fr f E=>?_⟩
 ·refine u.by_.block k hs fun e=>?_
  cases A with
  | none=>cases e
  | some p=>
   have e':k=p.block:=iU e
   have:=(ho.block p G).1
   omega
 ·refine u.heap f fun p o e=>E ?_
  rcases ho with⟨h,_⟩ | ⟨g,cs',D,_,q,_⟩
  ·rw [h] at o;cases o
  ·rw [D] at o;cases o
   simp only at e
   subst e
   unfold Bk at q
   rw [q] at f
   injection f with f
   injection f with _ f
   exact f.symm
end
theorem CB {z:aI}{s:Nat}(ht:P.underlying t=some (.slice e))(hinfo:(P.info? e).map (fun i=>(i.zero,i.size,i.bytes))=some (some z,s,bytes))(hzs:z.cells.size=s)(hsz:0<s)(hby:bytes≤64){xs:List aI}(hown:Own w base e s A n cap xs)(hb:base≤w.heap.size){a:aG}(hl:news.length=m*s)(hnews:∀j u,news[j]?=some u→w.cell? (a.add j)=some u)(h1:news.all (·.oneCell')=true)(hm:n+m≤1099511627776):∃A' cap' w',(o4 #[t,t] ty #[AT A n cap,AT (some a) m c]).run P w= .ok (AT A' (n+m) cap') w'∧Own w' base e s A' (n+m) cap' (xs++news)∧
   ((A'=A∧cap'=cap∧UpdO A w w')∨(Ext w w'∧∀a',A'=some a'→w.heap.size≤a'.block)):=by
 obtain⟨i,hi,Z,o,E⟩:=info_parts hinfo
 have h1':∀u∈news,u.oneCell'=true:=by simpa [eY] using h1
 have D:n+m≤maxLen:=by rw [eB];omega
 have h:(n+m)*bytes≤140737488355328:=by
  have:(n+m)*bytes≤1099511627776*64:=kE hm hby
  omega
 rcases hown with⟨rfl,rfl,rfl,rfl⟩ | ⟨g,cs,rfl,hg,Y,hn,L,M,H⟩
 ·obtain⟨v',w',hr,U,I,_⟩:=run_append_own (P:=P) w w.heap.size t ty e i z s bytes ht hi Z o E hzs hsz (AT none 0 0) 0 [] (World.ownsRow_nil w _ e s) a m c news hl hnews h1' D h (aS _)
  obtain⟨A',cap',rfl,p⟩:=Own.of_row U
  exact⟨A',cap',w',hr,p.mono hb,bW ⟨Ext.of_grown I,fun a' W=>(p.block a' W).1⟩⟩
 ·by_cases f:n+m≤cap
  ·have aa:n*s+news.length≤cs.length:=by rw [hl,M,←dV];exact eA s f
   obtain⟨w',X,q,hu,hs⟩:=tK (P:=P) news 0 (n*s) w cs Y (by omega) h1'
   rw [eI] at q
   have F:=run_firstCells_some (P:=P) w i.size m a m c news (by rw [o];exact hl) hnews
   rw [o] at F
   refine⟨some ⟨g,0,none⟩,cap,w',?_,bW ⟨g,_,rfl,hg,q,f,L,?_,?_⟩,bS ⟨rfl,rfl,hu.updO⟩⟩
   ·simp [o4,qR ht,sizeOf,typeInfo,hi,wI,f,F,Addr.add_lit,o,X]
   ·unfold gF
    simp only [fH,dK,mY]
    omega
   ·rw [dV,←hl]
    exact CZ H (by omega)
  ·obtain⟨v',w',hr,U,I⟩:=run_append_arg_grows (P:=P) w t ty e i z s bytes ht hi Z o E hzs hsz ⟨g,0,none⟩ n cap xs
    (by rw [←H,dK];have:=eA s hn;omega)
    (fun j u hj=>by
     have V:=(fD.1 hj).1
     rw [fL,eX,Y.cell (by rw [←H,dK] at V;omega)]
     rw [←H,jO] at hj
     split at hj
     ·rw [bE,hj];rfl
     ·cases hj) a m c news hl hnews (by omega) D h
   obtain⟨A',cap',rfl,p⟩:=Own.of_row U
   exact⟨A',cap',w',hr,p.mono hb,bW ⟨Ext.of_grown I,fun a' W=>(p.block a' W).1⟩⟩
structure Lst where
 A:Option aG
 n:Nat
 c:Nat
def Lst.v (x:Lst):aI:= AT x.A x.n x.c
def Lst.z:Lst:=⟨none,0,0⟩
def dX (i j:Nat):Nat:=4323455642275676160+i*1048576+j
def eS (i n:Nat):List Nat:=(dB n).map (dX i)
theorem xX (i n:Nat):(eS i n).length=n:=by unfold eS;rw [List.length_map,List.length_range]
theorem xY (h:j<n):(eS i n).getD j 0=dX i j:=by unfold eS;simp [bE,h]
theorem N0 (h:k≤n):(eS i n).take k=eS i k:=by
 unfold eS;rw [←kG,List.take_range,gL h]
theorem N4 (i n:Nat):eS i (n+1)=eS i n++ [dX i n]:=by unfold eS;rw [List.range_succ,List.map_append];rfl
structure Al1 (w:a7)(lb:Nat)(ls:List Lst)(i j:Nat):Prop where
 dis:∀a b,a<ls.length→b<ls.length→a≠b→∀p q,(ls.getD a Lst.z).A=some p→(ls.getD b Lst.z).A=some q→p.block≠q.block
 own:∀a,a<ls.length→∃xs:List Nat,Own w lb 36 1 (ls.getD a Lst.z).A (ls.getD a Lst.z).n (ls.getD a Lst.z).c (xs.map aY)∧(a<i→xs=eS a (ls.getD a Lst.z).n)∧(a=i→xs.take j=(eS a (ls.getD a Lst.z).n).take j)
section
variable {w w':a7}{lb i j:Nat}{ls:List Lst}
theorem Al1.ext (h:Al1 w lb ls i j)(e:Ext w w'):Al1 w' lb ls i j:=⟨h.dis,fun a o=>by
 obtain⟨xs,f,p⟩:=h.own a o
 exact⟨xs,f.ext e,p⟩⟩
theorem Al1.next (h:Al1 w lb ls i j)(hj:(ls.getD i Lst.z).n≤j):Al1 w lb ls (i+1) 0:=⟨h.dis,fun a q=>by
 obtain⟨xs,f,p,o⟩:=h.own a q
 refine⟨xs,f,fun _=>?_,fun _=>rfl⟩
 by_cases e:a=i
 ·subst e
  have D:=o rfl
  have hl:=CV f
  rwa [List.take_of_length_le (by omega),List.take_of_length_le (by rw [xX];exact hj)] at D
 ·exact p (by omega)⟩
theorem Al1.addr (h:Al1 w lb ls i j)(hi:i<ls.length)(hk:k<(ls.getD i Lst.z).n):∃p,(ls.getD i Lst.z).A.map (·.add (k*1))=some p:=by
 obtain⟨xs,f,_⟩:=h.own i hi
 obtain⟨p,o,_⟩:=f.at1 hk
 exact⟨p,o⟩
theorem Al1.set (h:Al1 w lb ls i j)(hi:i<ls.length)(hj:j<(ls.getD i Lst.z).n)(hT:∀w,(sizeOf T').run P w= .ok 1 w){p:aG}(hp:(ls.getD i Lst.z).A.map (·.add (j*1))=some p):∃w',(storeVar T' p (aY (dX i j))).run P w= .ok () w'∧Al1 w' lb ls i (j+1)∧UpU lb w w':=by
 obtain⟨xs,o,_,H⟩:=h.own i hi
 obtain⟨w',hr,U,E⟩:=M8 (P:=P) (T':=T') (f:=aY) (u:=dX i j) o hj G G hT hp
 refine⟨w',hr,⟨h.dis,fun a D=>?_⟩,UpU.ofO o E⟩
 by_cases e:a=i
 ·subst e
  refine⟨_,U,fun h=>absurd h (Nat.lt_irrefl _),fun _=>?_⟩
  have I:=H rfl
  have hl:=CV o
  rw [List.take_add_one,List.take_add_one,List.take_set_of_le (aS _),I]
  congr 1
  rw [List.getElem?_set_self (by omega)]
  have:=xY (i:=a) hj
  rw [bE,cA (by rw [xX];exact hj),Option.getD_some] at this
  rw [cA (by rw [xX];exact hj),this]
 ·obtain⟨ys,F,M,_⟩:=h.own a D
  exact⟨ys,F.updO E (fun p q hp L=>h.dis i a hi D (fun e'=>e e'.symm) p q hp L),M,fun e'=>absurd e' e⟩
end
structure Gr (w:a7)(lb:Nat)(x g:Lst)(i:Nat):Prop where
 ox:Own w lb 36 1 x.A x.n x.c ((eS i x.n).map aY)
 og:Own w lb 36 1 g.A g.n g.c ((eS i g.n).map aY)
 le:x.n≤g.n
 rel:(g.A=x.A∧g.c=x.c)∨(∀p q,x.A=some p→g.A=some q→p.block≠q.block)
def lR (x g:Lst)(k:Nat):Prop:=∃p,(x.A=some p∨g.A=some p)∧p.block=k
structure Al2 (w:a7)(lb:Nat)(ls gs:List Lst):Prop where
 len:gs.length=ls.length
 dis:∀a b,a<ls.length→b<ls.length→a≠b→∀k,lR (ls.getD a Lst.z) (gs.getD a Lst.z) k→¬lR (ls.getD b Lst.z) (gs.getD b Lst.z) k
 gr:∀a,a<ls.length→Gr w lb (ls.getD a Lst.z) (gs.getD a Lst.z) a
section
variable {w w':a7}{lb i:Nat}{ls gs:List Lst}
theorem Al2.start (h:Al1 w lb ls ls.length 0):Al2 w lb ls ls:=by
 refine⟨rfl,fun a b o hb F k f H=>?_,fun a o=>?_⟩
 ·obtain⟨p,E,rfl⟩:=f
  obtain⟨q,D,I⟩:=H
  exact h.dis a b o hb F p q (by rcases E with E | E <;> exact E) (by rcases D with D | D <;> exact D) I.symm
 ·obtain⟨xs,f,H,_⟩:=h.own a o
  rw [H o] at f
  exact⟨f,f,aS _,bS ⟨rfl,rfl⟩⟩
theorem Gr.ext {x g:Lst}(h:Gr w lb x g i)(e:Ext w w'):Gr w' lb x g i:=⟨h.ox.ext e,h.og.ext e,h.le,h.rel⟩
theorem Al2.ext (h:Al2 w lb ls gs)(e:Ext w w'):Al2 w' lb ls gs:=⟨h.len,h.dis,fun a f=>(h.gr a f).ext e⟩
theorem jI {α:Type}{l:List α}{x d:α}(h:i<l.length):(l.set i x).getD i d=x:=by simp [bE,h]
theorem jJ {α:Type}{l:List α}{x d:α}(h:j≠i):(l.set i x).getD j d=l.getD j d:=by
 rw [bE,List.getElem?_set_ne (fun e=>h e.symm),←bE]
theorem Al2.app (h:Al2 w lb ls gs)(hi:i<ls.length)(ho:Own w' lb 36 1 A' ((gs.getD i Lst.z).n+1) c' ((eS i ((gs.getD i Lst.z).n+1)).map aY))(hc:(A'=(gs.getD i Lst.z).A∧c'=(gs.getD i Lst.z).c∧UpdO (gs.getD i Lst.z).A w w')∨(Ext w w'∧∀a',A'=some a'→w.heap.size≤a'.block)):Al2 w' lb ls (gs.set i ⟨A',(gs.getD i Lst.z).n+1,c'⟩):=by
 have E:i<gs.length:=by rw [h.len];exact hi
 have o:=h.gr i hi
 rcases hc with⟨rfl,rfl,Y⟩ | ⟨he,I⟩
 ·refine⟨by rw [List.length_set];exact h.len,fun a b D hb F k W V=>?_,fun a D=>?_⟩
  ·refine h.dis a b D hb F k ?_ ?_
   ·by_cases e:a=i
    ·subst e;rwa [jI E] at W
    ·rwa [jJ e] at W
   ·by_cases e:b=i
    ·subst e;rwa [jI E] at V
    ·rwa [jJ e] at V
  ·by_cases e:a=i
   ·subst e
    rw [jI E]
    refine⟨?_,ho,Nat.le_succ_of_le o.le,o.rel⟩
    rcases o.rel with⟨e1,e2⟩ | hd
    ·have L:=ho.take1 (k:=(ls.getD a Lst.z).n) (Nat.le_succ_of_le o.le)
     rw [N0 (Nat.le_succ_of_le o.le)] at L
     rw [←e1,←e2];exact L
    ·exact o.ox.updO Y (fun p q f M e=>hd q p M f e.symm)
   ·rw [jJ e]
    have H:=h.gr a D
    refine⟨H.ox.updO Y (fun p q f M e'=>?_),H.og.updO Y (fun p q f M e'=>?_),H.le,H.rel⟩
    ·exact h.dis i a hi D (fun e''=>e e''.symm) p.block ⟨p,bW f,rfl⟩ ⟨q,bS M,e'.symm⟩
    ·exact h.dis i a hi D (fun e''=>e e''.symm) p.block ⟨p,bW f,rfl⟩ ⟨q,bW M,e'.symm⟩
 ·have old:∀a,a<ls.length→∀k,lR (ls.getD a Lst.z) (gs.getD a Lst.z) k→k<w.heap.size:=fun a D k U=>by
   obtain⟨p,f,rfl⟩:=U
   rcases f with f | f
   ·exact ((h.gr a D).ox.block p f).2
   ·exact ((h.gr a D).og.block p f).2
  have part:∀a,a<ls.length→∀k,lR (ls.getD a Lst.z) ((gs.set i ⟨A',(gs.getD i Lst.z).n+1,c'⟩).getD a Lst.z) k→lR (ls.getD a Lst.z) (gs.getD a Lst.z) k∨(a=i∧w.heap.size≤k):=fun a D k U=>by
   by_cases e:a=i
   ·subst e
    rw [jI E] at U
    obtain⟨p,f,rfl⟩:=U
    rcases f with f | f
    ·exact bS ⟨p,bS f,rfl⟩
    ·exact bW ⟨rfl,I p f⟩
   ·rw [jJ e] at U;exact bS U
  refine⟨by rw [List.length_set];exact h.len,fun a b D hb F k W V=>?_,fun a D=>?_⟩
  ·rcases part a D k W with X | ⟨e3,X⟩
   ·rcases part b hb k V with L | ⟨Z,L⟩
    ·exact h.dis a b D hb F k X L
    ·have:=old a D k X;omega
   ·rcases part b hb k V with L | ⟨Z,L⟩
    ·have:=old b hb k L;omega
    ·exact F (e3.trans Z.symm)
  ·by_cases e:a=i
   ·subst e
    rw [jI E]
    refine⟨o.ox.ext he,ho,Nat.le_succ_of_le o.le,bW fun p q f M e=>?_⟩
    have:=(o.ox.block p f).2
    have:=I q M
    omega
   ·rw [jJ e]
    exact (h.gr a D).ext he
end
section
variable {Q:dQ→Act→a7→Prop}{N:Nat}{l:Fr}{w:a7}{ops:Array aZ}{rest:List aZ}{d:Nat}{ty:aU}{pos:String}{af:Array fO}{gd:Option (Nat×Bool)}
theorem JB {x y:d7}{ls:List Lst}{p:aG}(hw:dG ops l gd=some true)(hx:bY l x=some (.pointer (some p)))(hy:bY l y=some (aY (dX i j)))(h:Al1 w lb ls i j)(hi:i<ls.length)(hj:j<(ls.getD i Lst.z).n)(hp:(ls.getD i Lst.z).A.map (·.add (j*1))=some p)(k:∀w',Al1 w' lb ls i (j+1)→UpU lb w w'→wl aM ops Q N rest l w'):wl aM ops Q N (⟨none,.store 36 x y,ty,pos,af,gd⟩::rest) l w:=by
 obtain⟨w',hr,o,f⟩:=h.set (P:=aM) (T':=36) hi hj bL hp
 exact rI hw hx hy hr (k w' o f)
theorem JE {x y:d7}{ls gs:List Lst}(hw:dG ops l gd=some true)(hx:bY l x=some (.slice (gs.getD i Lst.z).A (gs.getD i Lst.z).n (gs.getD i Lst.z).c))(hy:bY l y=some (AT (some ⟨g,0,none⟩) 1 c))(h:Al2 w lb ls gs)(hlb:lb≤w.heap.size)(hi:i<ls.length)(hb:Bk w g 36 [aY (dX i (gs.getD i Lst.z).n)])(hm:(gs.getD i Lst.z).n+1≤1099511627776)(hd:d<N)(k:∀A' c' w',Al2 w' lb ls (gs.set i ⟨A',(gs.getD i Lst.z).n+1,c'⟩)→UpU lb w w'→wl aM ops Q N rest ((d,AT A' ((gs.getD i Lst.z).n+1) c')::l) w'):wl aM ops Q N (⟨some d,.call {callee:= .builtin .append,args:= #[x,y],argTypes:= #[22,22]},ty,pos,af,gd⟩::rest) l w:=by
 have f:=h.gr i hi
 obtain⟨A',cap',w',hr,D,o⟩:=CB (P:=aM) (ty:=ty) bT iG G (by decide) (by decide) f.og hlb (m:=1) (c:=c) (news:= [aY (dX i (gs.getD i Lst.z).n)]) G (MG _ hb) G hm
 have F:Own w' lb 36 1 A' ((gs.getD i Lst.z).n+1) cap' ((eS i ((gs.getD i Lst.z).n+1)).map aY):=by rw [N4,List.map_append];exact D
 have E:=h.app hi F o
 have H:UpU lb w w':=by
  rcases o with⟨_,_,q⟩ | ⟨he,_⟩
  ·exact UpU.ofO f.og q
  ·exact UpU.of_ext lb he
 refine gU hw hd (fun a' p=>?_) (k A' cap' w' E H)
 unfold execOp
 simp only [resolve,invoke,builtin,dA,gT,eW,pI,kH,lH,p.ev hx,p.ev hy]
 rw [hr]
 rfl
end
theorem Own.atL {ls:List Lst}(h:Own w lb T 1 A n c (ls.map Lst.v))(hi:i<n):∃p,A.map (·.add (i*1))=some p∧w.cell? p=some (.slice (ls.getD i Lst.z).A (ls.getD i Lst.z).n (ls.getD i Lst.z).c):=by
 have hl:=h.rv.len
 rw [List.length_map,eG] at hl
 obtain⟨a,rfl,f⟩:=h.rv.get i (by omega)
 refine⟨a.add i,by rw [eG];rfl,?_⟩
 rw [f]
 simp [bE,fY,cA (show i<ls.length by omega),Lst.v]
section
variable {w w':a7}{lb i g:Nat}{ls gs:List Lst}{T:aU}{us:List aI}
theorem Gr.updT {x y:Lst}(h:Gr w lb x y i)(hb:Bk w g T us)(hT:36≠T)(u:Upd g w w'):Gr w' lb x y i:=⟨h.ox.updT hb hT u,h.og.updT hb hT u,h.le,h.rel⟩
theorem Al2.updT (h:Al2 w lb ls gs)(hb:Bk w g T us)(hT:36≠T)(u:Upd g w w'):Al2 w' lb ls gs:=⟨h.len,h.dis,fun a f=>(h.gr a f).updT hb hT u⟩
theorem UpU.upd_new {a b c:a7}(h:UpU lb a b)(u:Upd g b c)(hg:a.heap.size≤g)(hlb:lb≤a.heap.size):UpU lb a c:=
 ⟨u.by_.os.trans h.os,u.by_.tape.trans h.tape,u.by_.output.trans h.output,a6 h.size u.size,fun k p hs=>(u.by_.block k (d4 hs h.size) (fun e=>by injection e with e;omega)).trans (h.low k p hs),
  fun k cs t fr f o=>by
   have q:k<a.heap.size:=(Array.getElem?_eq_some_iff.1 f).1
   exact u.heap (h.typ k cs t fr f o) (by omega)⟩
end
def Al0 (w:a7)(lb:Nat)(ls:List Lst):Prop:=Al1 w lb ls 0 0
theorem Al2.rd1 {ls gs:List Lst}(h:Al2 w lb ls gs)(hi:i<ls.length)(hn:ls.length≤4194304)(hl:(ls.getD i Lst.z).n≤1099511627776):Rd w (ls.getD i Lst.z).A (ls.getD i Lst.z).n (ls.getD i Lst.z).c (eS i (ls.getD i Lst.z).n):=(h.gr i hi).ox.rd (fun x hx=>by
 unfold eS at hx
 obtain⟨j,hj,rfl⟩:=m6.1 hx
 have:=fN.1 hj
 unfold dX;rw [cI];omega)
theorem Al2.rd2 {ls gs:List Lst}(h:Al2 w lb ls gs)(hi:i<ls.length)(hn:ls.length≤4194304)(hl:(gs.getD i Lst.z).n≤1099511627776):Rd w (gs.getD i Lst.z).A (gs.getD i Lst.z).n (gs.getD i Lst.z).c (eS i (gs.getD i Lst.z).n):=(h.gr i hi).og.rd (fun x hx=>by
 unfold eS at hx
 obtain⟨j,hj,rfl⟩:=m6.1 hx
 have:=fN.1 hj
 unfold dX;rw [cI];omega)
section
variable {P:cC}{Q:dQ→Act→a7→Prop}{n:Nat}{l:Fr}{w:a7}{ops:Array aZ}{rest:List aZ}{d:Nat}{op:Op}{ty:aU}{pos:String}{af:Array fO}{gd:Option (Nat×Bool)}
def D6:jB→Bool
 | .eql=>false
 | .neq=>false
 | _=>true
theorem LI {x y:d7}{v:aI}(ho:D6 o=true)(hb:(binOp o t u v).run P w= .ok r w):((do eqGuard o t x y u v;binOp o t u v):Sem aI).run P w= .ok r w:=by
 cases o <;> first | (cases ho;done) | (simp only [eqGuard,dA];exact hb) | (simp [eqGuard,dA,hb])
theorem AU {x y:d7}{v:aI}(hw:dG ops l gd=some true)(hx:bY l x=some u)(hy:bY l y=some v)(ho:D6 o=true)(hb:∀w,(binOp o t u v).run P w= .ok r w)(hn:d<n)(h:wl P ops Q n rest ((d,r)::l) w):wl P ops Q n (⟨some d,.binOp o t x y t',ty,pos,af,gd⟩::rest) l w:=
 gU hw hn (fun a' f=>by
  have e:((do eqGuard o t x y (a'.eval x) (a'.eval y);binOp o t (a'.eval x) (a'.eval y)):Sem aI).run P w= .ok r w:=by
   rw [f.ev hx,f.ev hy];exact LI ho (hb w)
  show ((((do eqGuard o t x y (a'.eval x) (a'.eval y);binOp o t (a'.eval x) (a'.eval y)):Sem aI)>>=fun r=>pure (jA r)):Sem Next).run P w=_
  rw [dA,e];rfl) h
theorem kS {v v':aI}(hw:dG ops l gd=some true)(hk:jZ l op=true)(e:v=v')(h:wl P ops Q n rest ((d,v')::l) w)(hn:d<n:=by decide)(hr:(execOp (rho l) ⟨some d,op,ty,pos,af,gd⟩).run P w= .ok (.value v) w:=by kernel_rfl):wl P ops Q n (⟨some d,op,ty,pos,af,gd⟩::rest) l w:=AS hw hk hn hr (by rw [e];exact h)
end
theorem JL {x:Nat}(hx:x≤18446744073709551615)(P:cC)(t:aU)(w:a7):(binOp .and t (AI (x:Int)) (AI 1)).run P w= .ok (AI ((x%2:Nat):Int)) w:=by
 have e:=and_one_u64 (x:Int) (by omega) (by omega)
 have f:(binOp .and t (AI (x:Int)) (AI 1)).run P w= .ok (AI (bits BinOp.and IntKind.u64 (x:Int) 1)) w:=rfl
 rw [f,e,Int.natCast_emod];rfl
theorem nS {x:Nat}(h:x≤18446744073709551615):gK .u64 (IntKind.u64.wrap (x:Int))= AI (x:Int):=by rw [IntWalk.u64_in _ ⟨by omega,by omega⟩]
theorem RY {x:Nat}(h:x≤9223372036854775807):gK .i64 (IntKind.i64.wrap (x:Int))= v4 (x:Int):=by rw [IntWalk.i64_in _ ⟨by omega,by omega⟩]
theorem T7:AggT aM 54 3:=⟨fun _=>by kernel_rfl,fun _=>by kernel_rfl⟩
theorem O9:(Tryz.prog.info? 81).map (fun i=>(i.zero,i.size,i.bytes))=some (some (AT none 0 0),1,24):=by kernel_rfl
theorem nN (hi:i≤4194304:=by omega)(hj:j≤1099511627776:=by omega):aQ aM 81 #[v4 i,v4 j] w (Gv w (Is (AI ((dX i j:Nat):Int)))):=by
 refine bP Tryz.func81 G (n:=12) G (bq G) (args:= [v4 i,v4 j]) (bH [(0,v4 i),(1,v4 j)] ⟨rfl,rfl,Fo⟩ (sr (mv 1 G (aA (sr (mv 1 G (kS G G (v:= AI (IntKind.u64.wrap ((i:Nat):Int))) (v':= AI i) (nS (by first | omega | exact hle64)) (aT G G G ((i*1048576:Nat):Int) (mS (a:=i) (b:=1048576) G G) (aT G G G ((4323455642275676160+(i*1048576):Nat):Int) (gS (a:=4323455642275676160) (b:=i*1048576) G G) (mv 1 G (kS G G (v:= AI (IntKind.u64.wrap ((j:Nat):Int))) (v':= AI j) (nS (by first | omega | exact hle64)) (aT G G G (((4323455642275676160+(i*1048576))+j:Nat):Int) (gS (a:=4323455642275676160+(i*1048576)) (b:=j) G G) (mv 1 G ?_)))))))))))))
 refine aA (bD (bC [AI (((4323455642275676160+(i*1048576))+j:Nat):Int)] G ⟨rfl,Fo⟩ ?_))
 exact⟨_,rfl,(show gK .u64 _= AI ((dX i j:Nat):Int) by unfold dX;rfl),(Ext.refl w)⟩
theorem Q9 {xn xc gn gc:Nat}(hi:i≤4194304)(hx:Rd w XA xn xc (eS i xn))(hg:Rd w GA gn gc (eS i gn))(hn:gn=xn+80)(hl:xn≤1099511627000):aQ aM 82 #[v4 i,AT XA xn xc,AT GA gn gc] w (Gv w (Is (By))):=by
 refine bP Tryz.func82 G (n:=43) G (bq G) (args:= [v4 i,AT XA xn xc,AT GA gn gc]) (bH [(0,v4 i),(1,AT XA xn xc),(2,AT GA gn gc)] ⟨rfl,rfl,rfl,Fo⟩ (sr (mv 1 G (aA (aH (sr (mv 1 G (pu (v:= v4 gn) G (mv 1 G (pu (v:= v4 xn) G (aT G G G ((xn+80:Nat):Int) (bK (a:=xn) (b:=80) G G) (aN G G G false (iI (a:=gn) (b:=xn+80) G G) (aR ?_)))))))))))))
 refine aK (aV G (b8 (aK (aH (sr (mv 1 G (aA (bG ?_))))))))
 refine cQ (T:=a7×Nat)
  (fun⟨wr,j⟩=> [(0,v4 i),(1,AT XA xn xc),(2,AT GA gn gc),(7,v4 j)])
  (fun⟨wr,j⟩=>wr)
  (fun⟨wr,j⟩=>(Ext w wr)∧(j≤xn)∧(Rd wr XA xn xc (eS i xn))∧(Rd wr GA gn gc (eS i gn)))
  (fun⟨wr,j⟩=>xn-j)
  (⟨w,0⟩:a7×Nat) ⟨(Ext.refl w),(bJ _),hx,hg⟩ G ⟨rfl,rfl,rfl,rfl,Fo⟩ ?_
 rintro⟨wr,j⟩ ⟨h,hj,o,p⟩
 refine cP [(0,v4 i),(1,AT XA xn xc),(2,AT GA gn gc),(7,v4 j)] wr G ⟨rfl,rfl,rfl,rfl,Fo⟩ (aH (aH ?_))
 by_cases E:j<xn
 ·refine aJ (mv 2 G (pu (v:= v4 xn) G (aN G G G true (cG (a:=j) (b:=xn) G G) (aA (bB G (b8 (aK (aH (bG (aH ?_))))))))))
  have ab:=xY (i:=i) E
  obtain⟨p1,X,Y,_⟩:=(o).at (i:=j) (by omega)
  refine cU bR 8 [] [Is (AT XA xn xc),Is (v4 j),Is (.pointer (some p1)),Is (AI (((eS i xn).getD j 0:Nat):Int)),Is (v4 i),Is (v4 j),Is (AI ((dX i j:Nat):Int)),Is (BY)] [[],[],[0,1],[2],[],[],[4,5],[3,6]] [[],[],[0,1],[0,1,2],[],[],[4,5],[0,1,2,3,4,5,6]] rfl
   (aF G G (aC G G ?_) (aF G G (aC G G ?_) (aF G G (aC G G ?_) (aF G G (aC G G ?_) (aF G G (aC G G ?_) (aF G G (aC G G ?_) (aF G G (aC G G ?_) (aF G G (aC G G ?_) cE)))))))) ?_
  ·exact fun _ _=>aB (mv 1 G (aE G aD G))
  ·exact fun _ _=>aB (mv 1 G (aE G aD G))
  ·exact fun _ _=>dk G G (dk G G (aB (bI G G G bT bL j G p1 X (aE G aD G))))
  ·exact fun _ Z=>dk G G (aB (aP G G (dC d6 (Z.cell Y)) (aE G aD G)))
  ·exact fun _ _=>aB (mv 1 G (aE G aD G))
  ·exact fun _ _=>aB (mv 1 G (aE G aD G))
  ·intro _ aa
   have f:=h.trans aa
   refine dk G G (dk G G (aB (cl (vs:= [v4 i,v4 j]) f (nN) G (by kernel_rfl) fun _ _ ag ai ah=>?_)))
   obtain rfl:=ag
   exact aE G ai rfl
  ·exact fun _ _=>dk G G (dk G G (aB (aN G G G false (iI (a:=(eS i xn).getD j 0) (b:=dX i j) G G) (aE G aD G))))
  ·intro ae D
   have f:=h.trans D
   refine dk G G (dk G G (dk G G (dk G G (dk G G (dk G G (dk G G (dk G G (aB (aR (cF (aK (aV G (b8 ?_)))))))))))))
   refine bM (aK (aJ (mv 1 G (aT G G G ((j+1:Nat):Int) (bK (a:=j) (b:=1) G G) (mv 1 G (aR (bX (⟨ae,j+1⟩:a7×Nat) ⟨f,(by omega),(o.ext D),(p.ext D)⟩ (show xn-(j+1)<xn-j by omega) G ⟨rfl,rfl,rfl,rfl,Fo⟩)))))))
 ·refine aJ (mv 2 G (pu (v:= v4 xn) G (aN G G G false (cL (a:=j) (b:=xn) G G) (aA (aV G (cR (cK (cN (cO (aK (aH (sr (mv 1 G ?_)))))))))))))
  refine aA (bG ?_)
  refine cQ (T:=a7×Nat)
   (fun⟨wr,j⟩=> [(0,v4 i),(1,AT XA xn xc),(2,AT GA gn gc),(8,v4 j)])
   (fun⟨wr,j⟩=>wr)
   (fun⟨wr,j⟩=>(Ext w wr)∧(j≤gn)∧(Rd wr XA xn xc (eS i xn))∧(Rd wr GA gn gc (eS i gn)))
   (fun⟨wr,j⟩=>gn-j)
   (⟨wr,0⟩:a7×Nat) ⟨h,(bJ _),o,p⟩ G ⟨rfl,rfl,rfl,rfl,Fo⟩ ?_
  rintro⟨wr,j⟩ ⟨h,hj,o,p⟩
  refine cP [(0,v4 i),(1,AT XA xn xc),(2,AT GA gn gc),(8,v4 j)] wr G ⟨rfl,rfl,rfl,rfl,Fo⟩ (aH (aH ?_))
  by_cases E:j<gn
  ·refine aJ (mv 2 G (pu (v:= v4 gn) G (aN G G G true (cG (a:=j) (b:=gn) G G) (aA (bB G (b8 (aK (aH (bG (aH ?_))))))))))
   have ab:=xY (i:=i) E
   obtain⟨L,W,I,_⟩:=(p).at (i:=j) (by omega)
   refine cU bR 8 [] [Is (AT GA gn gc),Is (v4 j),Is (.pointer (some L)),Is (AI (((eS i gn).getD j 0:Nat):Int)),Is (v4 i),Is (v4 j),Is (AI ((dX i j:Nat):Int)),Is (BY)] [[],[],[0,1],[2],[],[],[4,5],[3,6]] [[],[],[0,1],[0,1,2],[],[],[4,5],[0,1,2,3,4,5,6]] rfl
    (aF G G (aC G G ?_) (aF G G (aC G G ?_) (aF G G (aC G G ?_) (aF G G (aC G G ?_) (aF G G (aC G G ?_) (aF G G (aC G G ?_) (aF G G (aC G G ?_) (aF G G (aC G G ?_) cE)))))))) ?_
   ·exact fun _ _=>aB (mv 1 G (aE G aD G))
   ·exact fun _ _=>aB (mv 1 G (aE G aD G))
   ·exact fun _ _=>dk G G (dk G G (aB (bI G G G bT bL j G L W (aE G aD G))))
   ·exact fun _ V=>dk G G (aB (aP G G (dC d6 (V.cell I)) (aE G aD G)))
   ·exact fun _ _=>aB (mv 1 G (aE G aD G))
   ·exact fun _ _=>aB (mv 1 G (aE G aD G))
   ·intro _ F
    have f:=h.trans F
    refine dk G G (dk G G (aB (cl (vs:= [v4 i,v4 j]) f (nN) G (by kernel_rfl) fun _ _ M H ah=>?_)))
    obtain rfl:=M
    exact aE G H rfl
   ·exact fun _ _=>dk G G (dk G G (aB (aN G G G false (iI (a:=(eS i gn).getD j 0) (b:=dX i j) G G) (aE G aD G))))
   ·intro U q
    have f:=h.trans q
    refine dk G G (dk G G (dk G G (dk G G (dk G G (dk G G (dk G G (dk G G (aB (aR (cF (aK (aV G (b8 ?_)))))))))))))
    refine bM (aK (aJ (mv 1 G (aT G G G ((j+1:Nat):Int) (bK (a:=j) (b:=1) G G) (mv 1 G (aR (bX (⟨U,j+1⟩:a7×Nat) ⟨f,(by omega),(o.ext q),(p.ext q)⟩ (show gn-(j+1)<gn-j by omega) G ⟨rfl,rfl,rfl,rfl,Fo⟩)))))))
  ·refine aJ (mv 2 G (pu (v:= v4 gn) G (aN G G G false (cL (a:=j) (b:=gn) G G) (aA (aV G (cR (cK (cN (cO (aK (sr (mv 1 G (aR ?_)))))))))))))
   refine aK (bD (bC [By] G ⟨rfl,Fo⟩ ?_))
   exact⟨_,rfl,rfl,h⟩
theorem RB (h:q<l.length):l.drop q=l.getD q 0::l.drop (q+1):=by rw [mZ h,bE,cA h];rfl
def rU (i:Nat):Nat:=6510516211317473280+i
def iD (xs:List Nat):List Nat:=xs++(dB 80).map fun k=>rU (xs.length+k)
theorem xE (xs:List Nat):(iD xs).length=xs.length+80:=by unfold iD;rw [fH,List.length_map,List.length_range]
theorem CF (h:i<xs.length):(iD xs).getD i 0=xs.getD i 0:=by
 unfold iD;rw [bE,List.getElem?_append_left h,←bE]
theorem CG (h:xs.length≤i)(h2:i<xs.length+80):(iD xs).getD i 0=rU i:=by
 unfold iD;rw [bE,List.getElem?_append_right h,fY,List.getElem?_range (by omega)]
 show rU _=_
 congr 1;omega
theorem CD (hl:l.length=xs.length+80)(hi:i<xs.length+80)(h:l.take i=(iD xs).take i):(l.set i ((iD xs).getD i 0)).take (i+1)=(iD xs).take (i+1):=by
 rw [List.take_add_one,List.take_add_one,List.take_set_of_le (aS _),h,List.getElem?_set_self (by omega),cA (by rw [xE];exact hi),bE,cA (by rw [xE];exact hi)]
 rfl
section
variable {P:cC}{Q:dQ→Act→a7→Prop}{n:Nat}{l:Fr}{w:a7}{ops:Array aZ}{rest:List aZ}{d:Nat}{ty:aU}{pos:String}{af:Array fO}
end
def fZ (n:Nat):List Nat:=(dB 80).map fun k=>rU (n+k)
theorem DT (h:n≤1099511627776):Wf (fZ n):=fun x hx=>by
 obtain⟨k,f,rfl⟩:=m6.1 hx
 have:=fN.1 f
 unfold rU;rw [cI];omega
theorem oJ (n:Nat):(fZ n).length=80:=by unfold fZ;rw [List.length_map,List.length_range]
theorem rQ (h:Bk w g 36 ((ys++fZ n).map aY))(hl:ys.length=n)(hw:Wf ys)(hn:n≤1099511627776):Rd w (some ⟨g,0,none⟩) n (n+80) ys:=by
 have f:=h.rd (sP hw (DT hn)) (o:=0) (n:=n) (cap:=n+80) (by omega) (by rw [fH,oJ];omega) (by rw [eB];omega)
 rwa [i9,List.take_left' hl] at f
theorem CE (h:Bk w g 36 ((ys++fZ n).map aY))(hl:ys.length=n)(hw:Wf ys)(hn:n≤1099511627776):Rd w (some ⟨g,0,none⟩) (n+80) (n+80) (ys++fZ n):=by
 have f:=h.rd (sP hw (DT hn)) (o:=0) (n:=n+80) (cap:=n+80) (by omega) (by rw [fH,oJ];omega) (by rw [eB];omega)
 rwa [i9,List.take_of_length_le (by rw [fH,oJ];omega)] at f
theorem Al0.ext {ls:List Lst}(h:Al0 w lb ls)(e:Ext w w'):Al0 w' lb ls:=Al1.ext h e
def RM (b:Nat)(xs:List Nat)(v:aI)(w:a7):Prop:=∃g,v= AT (some ⟨g,0,none⟩) (xs.length+80) (xs.length+80)∧b≤g∧Bk w g 36 ((xs++fZ xs.length).map aY)
theorem FE (hx:Rd w A xs.length ac xs)(hal:xs.length≤1099511627000):aQ aM 34 #[AT A xs.length ac] w (Gv w (RM w.heap.size xs)):=by
 refine bP Tryz.func34 G (n:=33) G (bq G) (args:= [AT A xs.length ac]) (bH [(0,AT A xs.length ac)] ⟨rfl,Fo⟩ (sr (mv 1 G (aA (sr (mv 1 G (pu (v:= v4 ((xs.length:Nat):Int)) G (aT G G G ((xs.length+80:Nat):Int) (bK (a:=xs.length) (b:=80) G G) (mA G (k:=xs.length+80) G G G bT iG G fun p v2 F H e5=>?_)))))))))
 rw [jC] at H
 have D:w.heap.size≤p:=by rw [←F];exact (Ext.refl w).size
 have Y:0<ac→∀a,A=some a→a.block≠p:=fun hc a ha=>by have:=(hx).rv.blk a ha hc;omega
 clear F
 have o:=(Ext.refl w).trans e5
 refine mv 1 G (aA (aH (sr (mv 1 G (aA (bG ?_))))))
 refine cQ (T:=a7×Nat×List Nat)
  (fun⟨wr,i,l⟩=> [(0,AT A xs.length ac),(3,AT (some ⟨p,0,none⟩) (xs.length+80) (xs.length+80)),(4,v4 i)])
  (fun⟨wr,i,l⟩=>wr)
  (fun⟨wr,i,l⟩=>(Ext w wr)∧(Bk wr p 36 (l.map aY))∧(l.length=xs.length+80)∧(i≤xs.length+80)∧(l.take i=(iD xs).take i)∧(Rd wr A xs.length ac xs))
  (fun⟨wr,i,l⟩=>xs.length+80-i)
  (⟨v2,0,_⟩:a7×Nat×List Nat) ⟨o,H,(List.length_replicate (n:=xs.length+80) (a:=0)),(bJ _),(by rw [List.take_zero,List.take_zero]),(hx.ext e5)⟩ G ⟨rfl,rfl,rfl,Fo⟩ ?_
 rintro⟨wr,i,l⟩ ⟨o,hb,hl,hi,Z,E⟩
 refine cP [(0,AT A xs.length ac),(3,AT (some ⟨p,0,none⟩) (xs.length+80) (xs.length+80)),(4,v4 i)] wr G ⟨rfl,rfl,rfl,Fo⟩ (aH (aH ?_))
 by_cases f:i<xs.length+80
 ·refine aJ (mv 2 G (pu (v:= v4 (((xs.length+80):Nat):Int)) G (aN G G G true (cG (a:=i) (b:=xs.length+80) G G) (aA (bB G (b8 (aK (aH (bG (aH ?_))))))))))
  by_cases V:i<xs.length
  ·refine aJ (mv 2 G (pu (v:= v4 ((xs.length:Nat):Int)) G (aN G G G true (cG (a:=i) (b:=xs.length) G G) (aA (bB G ?_)))))
   have ak:xs.getD i 0≤18446744073709551615:=by have:=p8 hx.wf i;rw [cI] at this;omega
   refine aJ (mv 4 G ?_)
   obtain⟨p9,ae,ai,_⟩:=(E).at (i:=i) (by omega)
   refine bI G G G bT bL i G p9 ae (aP G G (dC d6 ai) (bI G G G bT bL i G ⟨p,i,none⟩ (dN _ _) ?_))
   have M:=hb
   refine eJ G G G bL G M (gQ (by rw [hl];omega)) G ((l.set i (xs.getD i 0)).map aY) (dO _ _ _) fun ah L I _=>?_
   have q:=I.ext o D
   refine aR (bM (aK (aJ (mv 1 G (aT G G G ((i+1:Nat):Int) (bK (a:=i) (b:=1) G G) (mv 1 G (aR (bX (⟨ah,i+1,l.set i (xs.getD i 0)⟩:a7×Nat×List Nat) ⟨q,L,(by rw [List.length_set];exact hl),(by omega),(by have h:=CD hl f Z;rw [CF V] at h;exact h),(Rd.updL E I Y)⟩ (show xs.length+80-(i+1)<xs.length+80-i by omega) G ⟨rfl,rfl,rfl,Fo⟩))))))))
  ·refine aJ (mv 2 G (pu (v:= v4 ((xs.length:Nat):Int)) G (aN G G G false (cL (a:=i) (b:=xs.length) G G) (aA (aV G (aJ (mv 3 G (kS G G (v:= AI (IntKind.u64.wrap ((i:Nat):Int))) (v':= AI i) (nS (by first | omega | exact hle64)) (aT G G G ((6510516211317473280+i:Nat):Int) (gS (a:=6510516211317473280) (b:=i) G G) (bI G G G bT bL i G ⟨p,i,none⟩ (dN _ _) ?_))))))))))
   have U:=hb
   refine eJ G G G bL G U (gQ (by rw [hl];omega)) G ((l.set i (6510516211317473280+i)).map aY) (dO _ _ _) fun aa W X _=>?_
   have q:=X.ext o D
   refine aR (bM (aK (aJ (mv 1 G (aT G G G ((i+1:Nat):Int) (bK (a:=i) (b:=1) G G) (mv 1 G (aR (bX (⟨aa,i+1,l.set i (6510516211317473280+i)⟩:a7×Nat×List Nat) ⟨q,W,(by rw [List.length_set];exact hl),(by omega),(by have h:=CD hl f Z;rw [CG (by omega) f] at h;exact h),(Rd.updL E X Y)⟩ (show xs.length+80-(i+1)<xs.length+80-i by omega) G ⟨rfl,rfl,rfl,Fo⟩))))))))
 ·have ab:i=xs.length+80:=by omega
  have ag:l=iD xs:=by rw [ab,List.take_of_length_le (by omega),List.take_of_length_le (by rw [xE];exact aS _)] at Z;exact Z
  refine aJ (mv 2 G (pu (v:= v4 (((xs.length+80):Nat):Int)) G (aN G G G false (cL (a:=i) (b:=xs.length+80) G G) (aA (aV G (cR (cK (cN (cO (aK (sr (mv 2 G (aR ?_)))))))))))))
  refine aK (bD (bC [AT (some ⟨p,0,none⟩) (xs.length+80) (xs.length+80)] G ⟨rfl,Fo⟩ (⟨_,rfl,⟨p,rfl,D,?_⟩,o⟩)))
  have h:=hb
  rw [ag] at h
  exact h
theorem FF {lc:Nat}(hr:Rd w L (xs.length+80) lc (iD xs))(hx:Rd w A xs.length ac xs)(hal:xs.length≤1099511627000):aQ aM 52 #[AT L (xs.length+80) lc,AT A xs.length ac] w (Gv w (Is (By))):=by
 refine bP Tryz.func52 G (n:=47) G (bq G) (args:= [AT L (xs.length+80) lc,AT A xs.length ac]) (bH [(0,AT L (xs.length+80) lc),(1,AT A xs.length ac)] ⟨rfl,rfl,Fo⟩ (sr (mv 1 G (aA (aH (sr (mv 1 G (pu (v:= v4 (((xs.length+80):Nat):Int)) G (mv 1 G (pu (v:= v4 ((xs.length:Nat):Int)) G (aT G G G ((xs.length+80:Nat):Int) (bK (a:=xs.length) (b:=80) G G) (aN G G G false (iI (a:=xs.length+80) (b:=xs.length+80) G G) (aR ?_)))))))))))))
 refine aK (aV G (b8 (aK (aH (sr (mv 1 G (aA (bG ?_))))))))
 refine cQ (T:=a7×Nat)
  (fun⟨wr,i⟩=> [(0,AT L (xs.length+80) lc),(1,AT A xs.length ac),(5,v4 i)])
  (fun⟨wr,i⟩=>wr)
  (fun⟨wr,i⟩=>(Ext w wr)∧(i≤xs.length+80)∧(Rd wr L (xs.length+80) lc (iD xs))∧(Rd wr A xs.length ac xs))
  (fun⟨wr,i⟩=>xs.length+80-i)
  (⟨w,0⟩:a7×Nat) ⟨(Ext.refl w),(bJ _),hr,hx⟩ G ⟨rfl,rfl,rfl,Fo⟩ ?_
 rintro⟨wr,i⟩ ⟨p,hi,o,F⟩
 refine cP [(0,AT L (xs.length+80) lc),(1,AT A xs.length ac),(5,v4 i)] wr G ⟨rfl,rfl,rfl,Fo⟩ (aH (aH ?_))
 by_cases I:i<xs.length+80
 ·refine aJ (mv 2 G (pu (v:= v4 (((xs.length+80):Nat):Int)) G (aN G G G true (cG (a:=i) (b:=xs.length+80) G G) (aA (bB G (b8 (aK (aH (bG (aH (aH ?_)))))))))))
  by_cases W:i<xs.length
  ·have ab:=CF W
   obtain⟨p1,X,ae,_⟩:=(o).at (i:=i) (by omega)
   obtain⟨p2,Z,aa,_⟩:=(F).at (i:=i) (by omega)
   refine cU bR 15 [] [Is (v4 i),Is (AT A xs.length ac),Is (v4 ((xs.length:Nat):Int)),Is (By),Is (By),Is (AT L (xs.length+80) lc),Is (v4 i),Is (.pointer (some p1)),Is (AI (((iD xs).getD i 0:Nat):Int)),Is (AT A xs.length ac),Is (v4 i),Is (.pointer (some p2)),Is (AI ((xs.getD i 0:Nat):Int)),Is (BY),Is (BY)] [[],[],[1],[0,2],[3],[4],[4],[4,5,6],[4,7],[4],[4],[4,9,10],[4,11],[4,8,12],[4,13]] [[],[],[1],[0,1,2],[0,1,2,3],[0,1,2,3,4],[0,1,2,3,4],[0,1,2,3,4,5,6],[0,1,2,3,4,5,6,7],[0,1,2,3,4],[0,1,2,3,4],[0,1,2,3,4,9,10],[0,1,2,3,4,9,10,11],[0,1,2,3,4,5,6,7,8,9,10,11,12],[0,1,2,3,4,5,6,7,8,9,10,11,12,13]] rfl
    (aF G G (aC G G ?_) (aF G G (aC G G ?_) (aF G G (aC G G ?_) (aF G G (aC G G ?_) (aF G G (aC G G ?_) (aF G G (aC G G ?_) (aF G G (aC G G ?_) (aF G G (aC G G ?_) (aF G G (aC G G ?_) (aF G G (aC G G ?_) (aF G G (aC G G ?_) (aF G G (aC G G ?_) (aF G G (aC G G ?_) (aF G G (aC G G ?_) (aF G G (aC G G ?_) cE))))))))))))))) ?_
   ·exact fun _ _=>aB (mv 1 G (aE G aD G))
   ·exact fun _ _=>aB (mv 1 G (aE G aD G))
   ·exact fun _ _=>dk G G (aB (pu (v:= v4 ((xs.length:Nat):Int)) G (aE G aD G)))
   ·exact fun _ _=>dk G G (dk G G (aB (aN G G G true (cG (a:=i) (b:=xs.length) G G) (aE G aD G))))
   ·exact fun _ _=>dk G G (aB (mv 1 G (aE G aD G)))
   ·exact fun _ _=>dk G G (aB (mv 1 G (aE G aD G)))
   ·exact fun _ _=>dk G G (aB (mv 1 G (aE G aD G)))
   ·exact fun _ _=>dk G G (dk G G (dk G G (aB (bI G G G bT bL i G p1 X (aE G aD G)))))
   ·exact fun _ Y=>dk G G (dk G G (aB (aP G G (dC d6 (Y.cell ae)) (aE G aD G))))
   ·exact fun _ _=>dk G G (aB (mv 1 G (aE G aD G)))
   ·exact fun _ _=>dk G G (aB (mv 1 G (aE G aD G)))
   ·exact fun _ _=>dk G G (dk G G (dk G G (aB (bI G G G bT bL i G p2 Z (aE G aD G)))))
   ·exact fun _ H=>dk G G (dk G G (aB (aP G G (dC d6 (H.cell aa)) (aE G aD G))))
   ·exact fun _ _=>dk G G (dk G G (dk G G (aB (aN G G G false (iI (a:=(iD xs).getD i 0) (b:=xs.getD i 0) G G) (aE G aD G)))))
   ·exact fun _ _=>dk G G (dk G G (aB (pu (v:= BY) G (aE G aD G))))
   ·intro V h
    have D:=p.trans h
    refine dk G G (dk G G (dk G G (dk G G (dk G G (dk G G (dk G G (dk G G (dk G G (dk G G (dk G G (dk G G (dk G G (dk G G ?_)))))))))))))
    refine dk G G (aB (aR (cF (aK (aV G (b8 (aK (sr (mv 2 G (pu (v:= v4 ((xs.length:Nat):Int)) G (aN G G G false (GL (a:=i) (b:=xs.length) G G (by omega)) (mv 9 G (pu (v:= BY) G ?_)))))))))))))
    refine aA (aV G (b8 (bM (aK (aJ (mv 1 G (aT G G G ((i+1:Nat):Int) (bK (a:=i) (b:=1) G G) (mv 1 G (aR (bX (⟨V,i+1⟩:a7×Nat) ⟨D,(by omega),(o.ext h),(F.ext h)⟩ (show xs.length+80-(i+1)<xs.length+80-i by omega) G ⟨rfl,rfl,rfl,Fo⟩))))))))))
  ·have ab:(iD xs).getD i 0=6510516211317473280+i:=CG (by omega) I
   refine cU bR 15 [] [Is (v4 i),Is (AT A xs.length ac),Is (v4 ((xs.length:Nat):Int)),Is (BY),Is (BY),Is (undef),Is (undef),Is (undef),Is (undef),Is (undef),Is (undef),Is (undef),Is (undef),Is (undef),Is (BY)] [[],[],[1],[0,2],[3],[4],[4],[4,5,6],[4,7],[4],[4],[4,9,10],[4,11],[4,8,12],[4,13]] [[],[],[1],[0,1,2],[0,1,2,3],[0,1,2,3,4],[0,1,2,3,4],[0,1,2,3,4,5,6],[0,1,2,3,4,5,6,7],[0,1,2,3,4],[0,1,2,3,4],[0,1,2,3,4,9,10],[0,1,2,3,4,9,10,11],[0,1,2,3,4,5,6,7,8,9,10,11,12],[0,1,2,3,4,5,6,7,8,9,10,11,12,13]] rfl
    (aF G G (aC G G ?_) (aF G G (aC G G ?_) (aF G G (aC G G ?_) (aF G G (aC G G ?_) (aF G G (aC G G ?_) (aF G G (aC G G ?_) (aF G G (aC G G ?_) (aF G G (aC G G ?_) (aF G G (aC G G ?_) (aF G G (aC G G ?_) (aF G G (aC G G ?_) (aF G G (aC G G ?_) (aF G G (aC G G ?_) (aF G G (aC G G ?_) (aF G G (aC G G ?_) cE))))))))))))))) ?_
   ·exact fun _ _=>aB (mv 1 G (aE G aD G))
   ·exact fun _ _=>aB (mv 1 G (aE G aD G))
   ·exact fun _ _=>dk G G (aB (pu (v:= v4 ((xs.length:Nat):Int)) G (aE G aD G)))
   ·exact fun _ _=>dk G G (dk G G (aB (aN G G G false (cL (a:=i) (b:=xs.length) G G) (aE G aD G))))
   ·exact fun _ _=>dk G G (aB (mv 1 G (aE G aD G)))
   ·exact fun _ _=>dk G G (aB (mv 1 G (aE G aD G)))
   ·exact fun _ _=>dk G G (aB (mv 1 G (aE G aD G)))
   ·exact fun _ _=>dk G G (dk G G (dk G G (aB (mv 1 G (aE G aD G)))))
   ·exact fun _ _=>dk G G (dk G G (aB (mv 1 G (aE G aD G))))
   ·exact fun _ _=>dk G G (aB (mv 1 G (aE G aD G)))
   ·exact fun _ _=>dk G G (aB (mv 1 G (aE G aD G)))
   ·exact fun _ _=>dk G G (dk G G (dk G G (aB (mv 1 G (aE G aD G)))))
   ·exact fun _ _=>dk G G (dk G G (aB (mv 1 G (aE G aD G))))
   ·exact fun _ _=>dk G G (dk G G (dk G G (aB (mv 1 G (aE G aD G)))))
   ·exact fun _ _=>dk G G (dk G G (aB (pu (v:= BY) G (aE G aD G))))
   ·intro U f
    have D:=p.trans f
    refine dk G G (dk G G (dk G G (dk G G (dk G G (dk G G (dk G G (dk G G (dk G G (dk G G (dk G G (dk G G (dk G G (dk G G ?_)))))))))))))
    refine dk G G (aB (aR (cF (aK (aV G (b8 (aK (sr (mv 2 G (pu (v:= v4 ((xs.length:Nat):Int)) G (aN G G G true (qJ (a:=i) (b:=xs.length) G G) (mv 3 G ?_))))))))))))
    obtain⟨M,q,E,_⟩:=((o.ext f)).at (i:=i) (by omega)
    refine bI G G G bT bL i G M q (aP G G (dC d6 E) (mv 1 G (kS G G (v:= AI (IntKind.u64.wrap ((i:Nat):Int))) (v':= AI i) (nS (by first | omega | exact hle64)) (aT G G G ((6510516211317473280+i:Nat):Int) (gS (a:=6510516211317473280) (b:=i) G G) (aN G G G false (iI (a:=(iD xs).getD i 0) (b:=6510516211317473280+i) G G) (pu (v:= BY) G (aA (aV G (b8 (bM (aK (aJ (mv 1 G ?_)))))))))))))
    refine aT G G G ((i+1:Nat):Int) (bK (a:=i) (b:=1) G G) (mv 1 G (aR (bX (⟨U,i+1⟩:a7×Nat) ⟨D,(by omega),(o.ext f),(F.ext f)⟩ (show xs.length+80-(i+1)<xs.length+80-i by omega) G ⟨rfl,rfl,rfl,Fo⟩)))
 ·refine aJ (mv 2 G (pu (v:= v4 (((xs.length+80):Nat):Int)) G (aN G G G false (cL (a:=i) (b:=xs.length+80) G G) (aA (aV G (cR (cK (cN (cO (aK (sr (mv 1 G (aR ?_)))))))))))))
  refine aK (bD (bC [By] G ⟨rfl,Fo⟩ ?_))
  exact⟨_,rfl,rfl,p⟩
theorem fC (x y:Int):ln (x.tdiv y)≤ln x:=iA (by rw [Int.natAbs_tdiv];exact i8 _ _)
theorem rZ (x y:Int):ln (x.tmod y)≤ln x:=iA (by rw [Int.natAbs_tmod];exact Nat.mod_le _ _)
theorem yN (h:0≤x.tmod y:=by omega):x.tdiv y=x/y∧x.tmod y=x%y:=by
 have q:=Int.tdiv_mul_add_tmod x y
 rcases Int.lt_trichotomy y 0 with f | f | f
 ·have p:x.tmod y< -y:=by have:=pQ (x:=x) (y:=y) (by omega);omega
  have e:x.tmod y=x%y:=by
   have:x%y=(x.tmod y+y*x.tdiv y)%y:=by rw [Int.mul_comm y];congr 1;omega
   rw [this,Int.add_mul_emod_self_left,←Int.emod_neg,Int.emod_eq_of_lt h p]
  refine⟨?_,e⟩
  have o:=Int.mul_ediv_add_emod x y
  rw [←e] at o
  refine Int.eq_of_mul_eq_mul_left (a:=y) (by omega) ?_
  rw [Int.mul_comm y (x.tdiv y)];omega
 ·subst f;simp
 ·have p:=Int.tmod_lt_of_pos x f
  have e:x.tmod y=x%y:=by
   have:x%y=(x.tmod y+y*x.tdiv y)%y:=by rw [Int.mul_comm y];congr 1;omega
   rw [this,Int.add_mul_emod_self_left,Int.emod_eq_of_lt h p]
  refine⟨?_,e⟩
  have o:=Int.mul_ediv_add_emod x y
  rw [←e] at o
  refine Int.eq_of_mul_eq_mul_left (a:=y) (by omega) ?_
  rw [Int.mul_comm y (x.tdiv y)];omega
theorem FO (h:x.tmod y<0)(hy:y<0):x.tdiv y+1=x/y∧x.tmod y-y=x%y:=by
 have o:=Int.tdiv_mul_add_tmod x y
 have p: -(x.tmod y)< -y:=by have:=pQ (x:=x) (y:=y) (by omega);omega
 have e:x.tmod y-y=x%y:=by
  have:x%y=((x.tmod y-y)+y*(x.tdiv y+1))%y:=by rw [Int.mul_add,Int.mul_comm y];congr 1;omega
  rw [this,Int.add_mul_emod_self_left,←Int.emod_neg,Int.emod_eq_of_lt (by omega) (by omega)]
 refine⟨?_,e⟩
 have f:=Int.mul_ediv_add_emod x y
 rw [←e] at f
 refine Int.eq_of_mul_eq_mul_left (a:=y) (by omega) ?_
 rw [Int.mul_add,Int.mul_comm y (x.tdiv y)];omega
theorem FN (h:x.tmod y<0)(hy:0<y):x.tdiv y-1=x/y∧x.tmod y+y=x%y:=by
 have o:=Int.tdiv_mul_add_tmod x y
 have p: -(x.tmod y)<y:=by have:=pQ (x:=x) (y:=y) (by omega);omega
 have e:x.tmod y+y=x%y:=by
  have:x%y=((x.tmod y+y)+y*(x.tdiv y-1))%y:=by rw [Int.mul_sub,Int.mul_comm y];congr 1;omega
  rw [this,Int.add_mul_emod_self_left,Int.emod_eq_of_lt (by omega) (by omega)]
 refine⟨?_,e⟩
 have f:=Int.mul_ediv_add_emod x y
 rw [←e] at f
 refine Int.eq_of_mul_eq_mul_left (a:=y) (by omega) ?_
 rw [Int.mul_sub,Int.mul_comm y (x.tdiv y)];omega
theorem OY {nb:Nat}(hx:Zi w sa Aa na ca x)(la:na≤68719476736)(hy:Zi w sb Ab nb cb y)(lb:nb≤68719476736)(h0:y≠0):aQ aM 63 #[J sa Aa na ca,J sb Ab nb cb] w (Gv w (T3 (ZR w.heap.size (x/y)) (ZR w.heap.size (x%y)) (Is (v4 0)))):=by
 have Lx:ln x≤68719476736:=a6 hx.ln la
 have Ly:ln y≤68719476736:=a6 hy.ln lb
 refine bP Tryz.func63 G (n:=41) G (bq G) (args:= [J sa Aa na ca,J sb Ab nb cb]) (bH [(0,J sa Aa na ca),(1,J sb Ab nb cb)] ⟨rfl,rfl,Fo⟩ (sr (bx (O sa Aa na ca) (Ext.refl w) G G G fun g1 _ gj _ _ iy=>(d5 (O sb Ab nb cb) iy gj.lt G G G fun g6 _ bc _ _ e8 jh=>(bF [F0,S0] jh bc.lt (fun _=>by kernel_rfl) G fun fm _ au ch _ bd je=>(bF [F0,S0] je au.lt (fun _=>by kernel_rfl) G fun el _ ar da _ ab dd=>(mv 1 G (aA (sr (lo a8 (gj.ext (e8.t (bd.t ab))) (O sa Aa na ca) G G G (lo a8 (bc.ext (bd.t ab)) (O sb Ab nb cb) G G G ?_)))))))))))
 have az:ln ((x).tdiv y)≤68719476736:=a6 (fC _ _) Lx
 have ba:ln ((x).tmod y)≤68719476736:=a6 (rZ _ _) Lx
 refine cl (vs:= [J sa Aa na ca,J sb Ab nb cb]) dd (EW dd.size (hx.ext dd) (aL la G) (hy.ext dd) (aL lb G) h0) G (by kernel_rfl) fun _ _ jp Y jb=>?_
 obtain⟨_,_,_,rfl,⟨F,q,D,E,rfl,cu⟩,⟨df,h,o,p,rfl,aj⟩,rfl⟩:=jp
 refine mv 1 G (pu (v:= J F q D E) G (pu (v:= J df h o p) G (pu (v:= v4 0) G (bF [F0,S0] jb (ar.ext Y).lt (fun _=>by kernel_rfl) G fun ia _ dl fb _ U jm=>(bF [F0,S0] jm dl.lt (fun _=>by kernel_rfl) G fun aw _ fy ge _ I jg=>?_)))))
 have W:=(dl.ext I)
 refine so a8 W (O F q D E) jg fb G G G G fun _ br L io=>?_
 have X:=(fy.vN L)
 refine so a8 X (O df h o p) io ge G G G G fun fk Z H aa=>(mv 1 G (aA (aH (aH ?_))))
 by_cases hr:x.tmod y<0
 ·obtain rfl:df=true:=by rw [aj.sgn];exact decide_eq_true hr
  refine aJ (mv 1 G (pu (v:= BY) G (mv 1 G (pf aw 0 G (aP G G (bA dZ Z G) (pu (v:= BY) G (pu (v:= BY) G (aA (aV G (b8 (aK (aH (aH ?_)))))))))))))
  by_cases dy:y<0
  ·obtain rfl:sb=true:=by rw [hy.sgn h0];exact decide_eq_true dy
   have hq:=FO hr dy
   refine aJ (pf g6 0 G (aP G G (bA dZ (((bc.ext (bd.t (ab.t (Y.t (U.t I))))).vN L).vN H) G) (aA (bB G (aH ?_)))))
   have jy:ln ((x.tdiv y)+1)≤68719476737:=a6 (gO az (show ln (1)≤1 by decide+kernel)) (by decide)
   have kc:ln ((x.tmod y)-y)≤68719476737:=a6 (gG ba Ly) (by decide)
   refine cU bR 6 [] [Is (J F q D E),ZR w.heap.size (1),ZR w.heap.size ((x.tdiv y)+1),Is (J true h o p),Is (J true Ab nb cb),ZR w.heap.size ((x.tmod y)-y)] [[],[],[0,1],[],[],[3,4]] [[],[],[0,1],[],[],[0,1,2,3,4],[0,1,2,3,4,5],[0,1,2,3,4,5,6],[0,1,2,3,4,5,6,7]] rfl
    (aF G G (aC G G ?_) (aF G G (aC G G ?_) (aF G G (aC G G ?_) (aF G G (aC G G ?_) (aF G G (aC G G ?_) (aF G G (aC G G ?_) cE)))))) ?_
   ·exact fun _ ji=>aB (lo a8 ((br.vN H).ext ji) (O F q D E) G G G (aE G aD G))
   ·intro _ jk
    have f:=aa.trans jk
    refine aB (cl (vs:= [v4 1]) f (lS f.size (by decide) (by decide)) G (by kernel_rfl) fun _ _ jo ja M=>?_)
    obtain⟨_,_,_,_,rfl,jl⟩:=jo
    exact aE G ja ⟨_,_,_,_,rfl,jl⟩
   ·intro _ gg
    have f:=aa.trans gg
    refine dk G G (aO G G fun _ _ jc _ iw=>?_)
    obtain⟨iz,jj,jd,ir,rfl,de⟩:=jc
    have de:=de.ext iw
    refine aB ?_
    have kf:ln ((x.tdiv y)+1)≤68719476737:=a6 (gO az (show ln (1)≤1 by decide+kernel)) (by decide)
    refine cl (vs:= [J F q D E,J iz jj jd ir]) f (yD f.size ((((cu.ext (U.t I)).updT W L).updT X H).ext gg).zi (cu.le (aL az G)) de.zi (de.le (a6 (show ln (1)≤1 by decide+kernel) (by decide)))) G (by kernel_rfl) fun _ _ ip iq M=>?_
    obtain⟨_,_,_,_,rfl,jf⟩:=ip
    exact aE G iq ⟨_,_,_,_,rfl,jf⟩
   ·exact fun _ ix=>aB (lo a8 (Z.ext ix) (O true h o p) G G G (aE G aD G))
   ·exact fun _ iu=>aB (lo a8 ((((bc.ext (bd.t (ab.t (Y.t (U.t I))))).vN L).vN H).ext iu) (O true Ab nb cb) G G G (aE G aD G))
   ·intro _ eh
    have f:=aa.trans eh
    refine dk G G (dk G G (aB ?_))
    have jr:ln ((x.tmod y)-y)≤68719476737:=a6 (gG ba Ly) (by decide)
    refine cl (vs:= [J true h o p,J true Ab nb cb]) f (oO f.size ((((aj.ext (U.t I)).updT W L).updT X H).ext eh).zi (aj.le (aL ba G)) (hy.ext f) (aL lb G)) G (by kernel_rfl) fun _ _ fj fh M=>?_
    obtain⟨_,_,_,_,rfl,fx⟩:=fj
    exact aE G fh ⟨_,_,_,_,rfl,fx⟩
   ·intro _ cm
    have f:=aa.trans cm
    refine dk G G (aO G G fun _ _ fd _ gf=>?_)
    obtain⟨_,_,_,_,rfl,dg⟩:=fd
    have dg:=dg.ext gf
    refine aO G G fun _ _ gt _ gi=>?_
    obtain⟨bu,bj,ck,bg,rfl,bv⟩:=gt
    have bv:=bv.ext gi
    refine dk G G (dk G G (aO G G fun _ _ fi _ gb=>?_))
    obtain⟨co,bi,cv,cj,rfl,cx⟩:=fi
    have cx:=cx.ext gb
    refine aB ?_
    have ak:=((((au.ext (ab.t (Y.t (U.t I)))).vN L).vN H).ext cm)
    refine so a8 ak (O bu bj ck bg) f ch G G G G fun _ ee dc M=>?_
    have an:=(((((ar.ext (Y.t (U.t I))).vN L).vN H).ext cm).vN dc)
    refine so a8 an (O co bi cv cj) M da G G G G fun _ dt ci ae=>(mv 1 G (aR (cF (aK (bD (cT (bC [J bu bj ck bg,J co bi cv cj,I0] G ⟨⟨_,rfl,aW a8 (ee.vN ci) (O bu bj ck bg) G (bq G) rfl⟩,⟨_,rfl,aW a8 dt (O co bi cv cj) G (bq G) rfl⟩,rfl,Fo⟩ ?_)))))))
    exact⟨_,rfl,⟨_,_,_,rfl,⟨_,_,_,_,rfl,(((bv.updT ak dc).updT an ci)).cast (hq.1)⟩,⟨_,_,_,_,rfl,(((cx.updT ak dc).updT an ci)).cast (hq.2)⟩,rfl⟩,ae⟩
  ·obtain rfl:sb=false:=by rw [hy.sgn h0];exact decide_eq_false dy
   have hq:=FN hr (by omega)
   refine aJ (pf g6 0 G (aP G G (bA dZ (((bc.ext (bd.t (ab.t (Y.t (U.t I))))).vN L).vN H) G) (aA (aV G (b8 (aK (aH ?_)))))))
   have ju:ln ((x.tdiv y)-1)≤68719476737:=a6 (gG az (show ln (1)≤1 by decide+kernel)) (by decide)
   have jw:ln ((x.tmod y)+y)≤68719476737:=a6 (gO ba Ly) (by decide)
   refine cU bR 6 [] [Is (J F q D E),ZR w.heap.size (1),ZR w.heap.size ((x.tdiv y)-1),Is (J true h o p),Is (.agg #[F0,AT Ab nb cb]),ZR w.heap.size ((x.tmod y)+y)] [[],[],[0,1],[],[],[3,4]] [[],[],[0,1],[],[],[0,1,2,3,4],[0,1,2,3,4,5],[0,1,2,3,4,5,6],[0,1,2,3,4,5,6,7]] rfl
    (aF G G (aC G G ?_) (aF G G (aC G G ?_) (aF G G (aC G G ?_) (aF G G (aC G G ?_) (aF G G (aC G G ?_) (aF G G (aC G G ?_) cE)))))) ?_
   ·exact fun _ fp=>aB (lo a8 ((br.vN H).ext fp) (O F q D E) G G G (aE G aD G))
   ·intro _ fg
    have f:=aa.trans fg
    refine aB (cl (vs:= [v4 1]) f (lS f.size (by decide) (by decide)) G (by kernel_rfl) fun _ _ gx fo M=>?_)
    obtain⟨_,_,_,_,rfl,fe⟩:=gx
    exact aE G fo ⟨_,_,_,_,rfl,fe⟩
   ·intro _ dh
    have f:=aa.trans dh
    refine dk G G (aO G G fun _ _ fc _ fa=>?_)
    obtain⟨ez,ej,fw,gy,rfl,aq⟩:=fc
    have aq:=aq.ext fa
    refine aB ?_
    have jx:ln ((x.tdiv y)-1)≤68719476737:=a6 (gG az (show ln (1)≤1 by decide+kernel)) (by decide)
    refine cl (vs:= [J F q D E,J ez ej fw gy]) f (oO f.size ((((cu.ext (U.t I)).updT W L).updT X H).ext dh).zi (cu.le (aL az G)) aq.zi (aq.le (a6 (show ln (1)≤1 by decide+kernel) (by decide)))) G (by kernel_rfl) fun _ _ ij ib M=>?_
    obtain⟨_,_,_,_,rfl,ep⟩:=ij
    exact aE G ib ⟨_,_,_,_,rfl,ep⟩
   ·exact fun _ ey=>aB (lo a8 (Z.ext ey) (O true h o p) G G G (aE G aD G))
   ·exact fun _ ga=>aB (lo a8 ((((bc.ext (bd.t (ab.t (Y.t (U.t I))))).vN L).vN H).ext ga) [F0,AT Ab nb cb] G G G (aE G aD G))
   ·intro _ dr
    have f:=aa.trans dr
    refine dk G G (dk G G (aB ?_))
    have jt:ln ((x.tmod y)+y)≤68719476737:=a6 (gO ba Ly) (by decide)
    refine cl (vs:= [J true h o p,.agg #[F0,AT Ab nb cb]]) f (yD f.size ((((aj.ext (U.t I)).updT W L).updT X H).ext dr).zi (aj.le (aL ba G)) (hy.ext f) (aL lb G)) G (by kernel_rfl) fun _ _ ei ig M=>?_
    obtain⟨_,_,_,_,rfl,ie⟩:=ei
    exact aE G ig ⟨_,_,_,_,rfl,ie⟩
   ·intro _ cy
    have f:=aa.trans cy
    refine dk G G (aO G G fun _ _ go _ ik=>?_)
    obtain⟨_,_,_,_,rfl,dm⟩:=go
    have dm:=dm.ext ik
    refine aO G G fun _ _ fv _ eg=>?_
    obtain⟨ct,cn,bz,bf,rfl,bm⟩:=fv
    have bm:=bm.ext eg
    refine dk G G (dk G G (aO G G fun _ _ fz _ gk=>?_))
    obtain⟨cg,cz,bo,bp,rfl,cp⟩:=fz
    have cp:=cp.ext gk
    refine aB ?_
    have ao:=((((au.ext (ab.t (Y.t (U.t I)))).vN L).vN H).ext cy)
    refine so a8 ao (O ct cn bz bf) f ch G G G G fun _ ef bt M=>?_
    have ah:=(((((ar.ext (Y.t (U.t I))).vN L).vN H).ext cy).vN bt)
    refine so a8 ah (O cg cz bo bp) M da G G G G fun _ dz bh ae=>(mv 1 G (aR (cF (aK (bD (bC [J ct cn bz bf,J cg cz bo bp,I0] G ⟨⟨_,rfl,aW a8 (ef.vN bh) (O ct cn bz bf) G (bq G) rfl⟩,⟨_,rfl,aW a8 dz (O cg cz bo bp) G (bq G) rfl⟩,rfl,Fo⟩ ?_))))))
    exact⟨_,rfl,⟨_,_,_,rfl,⟨_,_,_,_,rfl,(((bm.updT ao bt).updT ah bh)).cast (hq.1)⟩,⟨_,_,_,_,rfl,(((cp.updT ao bt).updT ah bh)).cast (hq.2)⟩,rfl⟩,ae⟩
 ·obtain rfl:df=false:=by rw [aj.sgn];exact decide_eq_false hr
  refine aJ (mv 1 G (pu (v:= BY) G (mv 1 G (pf aw 0 G (aP G G (bA dZ Z G) (pu (v:= By) G (pu (v:= By) G (aA (bB G (aH (bH [(0,J sa Aa na ca),(1,J sb Ab nb cb),(2,no g1 0),(3,no g6 0),(4,no fm 0),(5,no el 0),(11,J sa Aa na ca),(12,J sb Ab nb cb),(13,.tuple #[J F q D E,.agg #[F0,AT h o p],I0]),(10,.tuple #[J F q D E,.agg #[F0,AT h o p],I0]),(14,J F q D E),(15,.agg #[F0,AT h o p]),(16,v4 0),(7,no ia 0),(8,no aw 0),(9,v4 0),(17,v4 0),(18,BY),(19,BY),(20,no aw 0),(21,BY),(22,By),(23,By)] ⟨rfl,rfl,rfl,rfl,rfl,rfl,rfl,rfl,rfl,rfl,rfl,rfl,rfl,rfl,rfl,rfl,rfl,rfl,rfl,rfl,rfl,rfl,rfl,Fo⟩ ?_)))))))))))
  obtain⟨dn,hv,V⟩:∃v,v=fk.drew∧Ext fk v:=⟨_,rfl,aD.drew⟩
  have f:=aa.trans V
  have am:=((((au.ext (ab.t (Y.t (U.t I)))).vN L).vN H).ext V)
  obtain⟨fq,dx,du,ag,_⟩:=eV (P:=aM) (us:= (O F q D E)) (off:=0) a8 G am (bq G) G (O F q D E) rfl
  have M:=ag.ext f ch
  have ai:=(((((ar.ext (Y.t (U.t I))).vN L).vN H).ext V).vN ag)
  obtain⟨ew,dw,dv,av,_⟩:=eV (P:=aM) (us:= [F0,AT h o p]) (off:=0) a8 G ai (bq G) G [F0,AT h o p] rfl
  have ae:=av.ext M da
  refine gI bR (w:=dn) [J F q D E,.agg #[F0,AT h o p],I0,undef,undef,I0] [dn,fq,ew] [3,4] [[],[],[],[0],[1],[2]] [[],[],[],[0],[0,1,3],[0,1,2,3,4]] [(0,0),(1,0),(1,1),(2,0),(2,1),(2,2),(3,0),(4,1),(5,2)] G hv ?_ ?_
  ·refine aX _ G G G G G (cB G (aW a8 ((br.vN H).ext V) (O F q D E) G (bq G) G)) (aX _ G G G G G (cB G (aW a8 (Z.ext V) [F0,AT h o p] G (bq G) G)) (aX _ G G G G G (cB G (aW a8 ((Z.ext V).vN ag) [F0,AT h o p] G (bq G) G)) (aX _ G G G G G (cJ G) (aX _ G G G G G (cJ G) (aX _ G G G G G (cJ G) (f7 _ G G G G G (eR G G dx) (f7 _ G G G G G (eR G G dw) (aX _ G G G G G (kL G) ?_))))))))
   exact gH
  clear hv
  refine fU [(0,J sa Aa na ca),(1,J sb Ab nb cb),(2,no g1 0),(3,no g6 0),(4,no fm 0),(5,no el 0),(11,J sa Aa na ca),(12,J sb Ab nb cb),(13,.tuple #[J F q D E,.agg #[F0,AT h o p],I0]),(10,.tuple #[J F q D E,.agg #[F0,AT h o p],I0]),(14,J F q D E),(15,.agg #[F0,AT h o p]),(16,v4 0),(7,no ia 0),(8,no aw 0),(9,v4 0),(17,v4 0),(18,BY),(19,BY),(20,no aw 0),(21,BY),(22,By),(23,By),(24,J F q D E),(25,.agg #[F0,AT h o p]),(26,v4 0),(6,v4 0)] ⟨rfl,rfl,rfl,rfl,rfl,rfl,rfl,rfl,rfl,rfl,rfl,rfl,rfl,rfl,rfl,rfl,rfl,rfl,rfl,rfl,rfl,rfl,rfl,rfl,rfl,rfl,rfl,Fo⟩ (aK (bD (cT (bC [J F q D E,.agg #[F0,AT h o p],I0] G ⟨⟨_,rfl,aW a8 (du.vN av) (O F q D E) G (bq G) rfl⟩,⟨_,rfl,aW a8 dv [F0,AT h o p] G (bq G) rfl⟩,rfl,Fo⟩ ?_))))
  exact⟨_,rfl,⟨_,_,_,rfl,⟨_,_,_,_,rfl,(((((((cu.ext (U.t I)).updT W L).updT X H).ext V).updT am ag).updT ai av)).cast ((yN).1)⟩,⟨_,_,_,_,rfl,(((((((aj.ext (U.t I)).updT W L).updT X H).ext V).updT am ag).updT ai av)).cast ((yN).2)⟩,rfl⟩,ae⟩
theorem OZ {nb:Nat}(hb:b≤w.heap.size)(hx:Zi w sa Aa na ca x)(la:na≤68719476736)(hy:Zi w sb Ab nb cb y)(lb:nb≤68719476736)(h0:y≠0):aQ aM 63 #[J sa Aa na ca,J sb Ab nb cb] w (Gv w (T3 (ZR b (x/y)) (ZR b (x%y)) (Is (v4 0)))):=(OY hx la hy lb h0).mono (Gv.imp (T3.imp (ZR.imp hb) (ZR.imp hb) Is.imp))
theorem Zi.sg_ {z:Int}(h:Zi w s A n c z):sg s z.natAbs=z:=by
 obtain⟨xs,_,rfl⟩:=h
 rw [jU]
theorem NQ (x y:Int):ln (x/y)≤ln x+1:=by
 by_cases h:x.tmod y<0
 ·rcases Int.lt_trichotomy y 0 with f | f | f
  ·rw [←(FO h f).1]
   exact a6 (gO (fC x y) (aS _)) (by
    have o:x≠0:=fun e=>by subst e;simp at h
    have q:ln 1=1:=xZ
    have p:0<ln x:=by
     refine Nat.pos_of_ne_zero fun e=>o ?_
     have:=kO.1 (show (wd x.natAbs).length=0 from e)
     omega
    omega)
  ·subst f;simp [DY]
  ·rw [←(FN h f).1]
   exact a6 (gG (fC x y) (aS _)) (by
    have o:x≠0:=fun e=>by subst e;simp at h
    have q:ln 1=1:=xZ
    have p:0<ln x:=by
     refine Nat.pos_of_ne_zero fun e=>o ?_
     have:=kO.1 (show (wd x.natAbs).length=0 from e)
     omega
    omega)
 ·rw [←(yN).1]
  exact a6 (fC x y) (Nat.le_succ _)
theorem bO (h:y≠0):ln (x%y)≤ln y:=by
 refine iA ?_
 have f:=m7 x h
 have o:=Int.emod_lt x h
 omega
theorem OU {nb:Nat}(hx:Zi w sa Aa na ca x)(la:na≤68719476736)(hy:Zi w sb Ab nb cb y)(lb:nb≤68719476736)(h0:y≠0):aQ aM 31 #[J sa Aa na ca,J sb Ab nb cb] w (Gv w (T2 (ZR w.heap.size (x%y)) (Is (v4 0)))):=by
 have Lx:ln x≤68719476736:=a6 hx.ln la
 have Ly:ln y≤68719476736:=a6 hy.ln lb
 refine bP Tryz.func31 G (n:=18) G (bq G) (args:= [J sa Aa na ca,J sb Ab nb cb]) (bH [(0,J sa Aa na ca),(1,J sb Ab nb cb)] ⟨rfl,rfl,Fo⟩ (sr (bx (O sa Aa na ca) (Ext.refl w) G G G fun _ _ Y _ _ aw=>(d5 (O sb Ab nb cb) aw Y.lt G G G fun _ _ aa _ _ e8 aq=>(bF [F0,S0] aq aa.lt (fun _=>by kernel_rfl) G fun _ _ D ah _ ae q=>(mv 1 G (aA (sr (lo a8 (Y.ext (e8.t ae)) (O sa Aa na ca) G G G (lo a8 (aa.ext ae) (O sb Ab nb cb) G G G ?_))))))))))
 have bg:ln (x/y)≤68719476737:=a6 (NQ _ _) (Nat.succ_le_succ Lx)
 have bi:ln (x%y)≤68719476736:=a6 (bO h0) Ly
 refine cl (vs:= [J sa Aa na ca,J sb Ab nb cb]) q (OZ q.size (hx.ext q) (aL la G) (hy.ext q) (aL lb G) h0) G (by kernel_rfl) fun _ _ az U bd=>?_
 obtain⟨_,_,_,rfl,⟨aj,Z,an,W,rfl,_⟩,⟨f,p,h,o,rfl,ar⟩,rfl⟩:=az
 refine mv 1 G (pu (v:= J aj Z an W) G (pu (v:= J f p h o) G (pu (v:= v4 0) G (bF [F0,S0] bd (D.ext U).lt (fun _=>by kernel_rfl) G fun _ _ I ak _ ab bf=>(bF [F0,S0] bf I.lt (fun _=>by kernel_rfl) G fun _ _ ag V _ L ba=>?_)))))
 have F:=(I.ext L)
 refine so a8 F (O aj Z an W) ba ak G G G G fun _ _ M bc=>?_
 have E:=(ag.vN M)
 refine so a8 E (O f p h o) bc V G G G G fun _ X am ao=>(mv 1 G (aA (sr (lo a8 X (O f p h o) G G G (mv 1 G ?_)))))
 have H:=(((D.ext (U.t (ab.t L))).vN M).vN am)
 refine so a8 H (O f p h o) ao ah G G G G fun _ ai av au=>(mv 1 G (aA (bD (bC [J f p h o,I0] G ⟨⟨_,rfl,aW a8 ai (O f p h o) G (bq G) rfl⟩,rfl,Fo⟩ ?_))))
 exact⟨_,rfl,⟨_,_,rfl,⟨_,_,_,_,rfl,((((ar.ext (ab.t L)).updT F M).updT E am).updT H av)⟩,rfl⟩,au⟩
theorem oP {nb:Nat}(hb:b≤w.heap.size)(hx:Zi w sa Aa na ca x)(la:na≤68719476736)(hy:Zi w sb Ab nb cb y)(lb:nb≤68719476736)(h0:y≠0):aQ aM 31 #[J sa Aa na ca,J sb Ab nb cb] w (Gv w (T2 (ZR b (x%y)) (Is (v4 0)))):=(OU hx la hy lb h0).mono (Gv.imp (T2.imp (ZR.imp hb) Is.imp))
theorem OW {nb:Nat}(hx:Zi w sa Aa na ca x)(la:na≤68719476736)(hy:Zi w sb Ab nb cb y)(lb:nb≤68719476736)(h0:y≠0)(hd:x.natAbs%y.natAbs≠0):aQ aM 30 #[J sa Aa na ca,J sb Ab nb cb] w (Gv w (T2 (ZR w.heap.size (0)) (Is (v4 8)))):=by
 have Lx:ln x≤68719476736:=a6 hx.ln la
 have Ly:ln y≤68719476736:=a6 hy.ln lb
 refine bP Tryz.func30 G (n:=27) G (bq G) (args:= [J sa Aa na ca,J sb Ab nb cb]) (bH [(0,J sa Aa na ca),(1,J sb Ab nb cb)] ⟨rfl,rfl,Fo⟩ (sr (bx (O sa Aa na ca) (Ext.refl w) G G G fun Y _ o _ _ I=>(d5 (O sb Ab nb cb) I o.lt G G G fun g6 _ q _ _ Z L=>(bF [F0,S0] L q.lt (fun _=>by kernel_rfl) G fun _ _ p D _ E h=>(mv 1 G (aA (sr (pf Y 1 G (aP G G (bA cZ (o.ext (Z.t E)) G) (pf g6 1 G (aP G G (bA cZ (q.ext E) G) (cl (vs:= [AT Aa na ca,AT Ab nb cb]) h (QA (hx.ext h).wi (aL la G) (hy.ext h).wi (aL lb G) (by omega) hd) G (by kernel_rfl) fun _ M H X U=>?_)))))))))))))
 obtain rfl:=H
 refine mv 1 G (pu (v:= AT none 0 0) G (pu (v:= v4 8) G (mv 2 G (aA (aH (sr (mv 1 G (pu (v:= By) G (aA (bB G (sr (pu (v:= .agg #[F0,S0]) G (mv 1 G ?_)))))))))))))
 have f:=(p.ext X)
 refine so a8 f [F0,S0] U D G G G G fun _ F V W=>(mv 1 G (aA (bD (cT (bC [.agg #[F0,S0],v4 8] G ⟨⟨_,rfl,aW a8 F [F0,S0] G (bq G) rfl⟩,rfl,Fo⟩ ?_)))))
 exact⟨_,rfl,⟨_,_,rfl,⟨_,_,_,_,rfl,((Zr.zero (w:=M) (base:=w.heap.size)).updT f V)⟩,rfl⟩,W⟩
theorem OX {nb:Nat}(hb:b≤w.heap.size)(hx:Zi w sa Aa na ca x)(la:na≤68719476736)(hy:Zi w sb Ab nb cb y)(lb:nb≤68719476736)(h0:y≠0)(hd:x.natAbs%y.natAbs≠0):aQ aM 30 #[J sa Aa na ca,J sb Ab nb cb] w (Gv w (T2 (ZR b (0)) (Is (v4 8)))):=(OW hx la hy lb h0 hd).mono (Gv.imp (T2.imp (ZR.imp hb) Is.imp))
theorem OV {nb:Nat}(hx:Zi w sa Aa na ca x)(la:na≤68719476736)(hy:Zi w sb Ab nb cb y)(lb:nb≤68719476736)(h0:y≠0)(hd:x.natAbs%y.natAbs=0):aQ aM 30 #[J sa Aa na ca,J sb Ab nb cb] w (Gv w (T2 (ZR w.heap.size (x.tdiv y)) (Is (v4 0)))):=by
 have Lx:ln x≤68719476736:=a6 hx.ln la
 have Ly:ln y≤68719476736:=a6 hy.ln lb
 refine bP Tryz.func30 G (n:=27) G (bq G) (args:= [J sa Aa na ca,J sb Ab nb cb]) (bH [(0,J sa Aa na ca),(1,J sb Ab nb cb)] ⟨rfl,rfl,Fo⟩ (sr (bx (O sa Aa na ca) (Ext.refl w) G G G fun g1 _ p _ _ ai=>(d5 (O sb Ab nb cb) ai p.lt G G G fun g6 _ q _ _ e8 ab=>(bF [F0,S0] ab q.lt (fun _=>by kernel_rfl) G fun _ _ L M _ f h=>(mv 1 G (aA (sr (pf g1 1 G (aP G G (bA cZ (p.ext (e8.t f)) G) (pf g6 1 G (aP G G (bA cZ (q.ext f) G) ?_))))))))))))
 have L1:(wd (x.natAbs/y.natAbs)).length≤68719476736:=a6 (jX (i8 _ _)) Lx
 refine cl (vs:= [AT Aa na ca,AT Ab nb cb]) h (QB h.size (hx.ext h).wi (aL la G) (hy.ext h).wi (aL lb G) (by omega) hd) G (by kernel_rfl) fun _ _ Y E am=>?_
 obtain⟨_,_,rfl,⟨W,U,X,rfl,ah,aa⟩,rfl⟩:=Y
 refine mv 1 G (pu (v:= AT W U X) G (pu (v:= v4 0) G (mv 2 G (aA (aH (sr (mv 1 G (pu (v:= BY) G (aA (aV G (b8 (aK (aH ?_)))))))))))))
 refine aJ (pf g1 0 G (aP G G (bA dZ (p.ext (e8.t (f.t E))) G) (pf g6 0 G (aP G G (bA dZ (q.ext (f.t E)) G) (pu (v:= .bool (!(sa==sb))) G (mv 1 G ?_))))))
 have av:ln (sg (!(sa==sb)) (Int.natAbs x/Int.natAbs y))≤68719476736:=(show (wd (sg _ _).natAbs).length≤_ by rw [jU];exact L1)
 refine cl (vs:= [.bool (!(sa==sb)),AT W U X]) am (OS ah aa) G (by kernel_rfl) fun _ _ ae ag an=>?_
 obtain⟨I,D,H,F,rfl,Z⟩:=ae
 have o:=(L.ext (E.t ag))
 refine so a8 o (O I D H F) an M G G G G fun _ V ak aj=>(mv 1 G (aA (bD (bC [J I D H F,I0] G ⟨⟨_,rfl,aW a8 V (O I D H F) G (bq G) rfl⟩,rfl,Fo⟩ ?_))))
 exact⟨_,rfl,⟨_,_,rfl,⟨_,_,_,_,rfl,((Z.updT o ak)).cast (by rw [show (!(sa==sb))=(sa != sb) from rfl,wZ,hx.sg_,hy.sg_])⟩,rfl⟩,aj⟩
theorem qE {nb:Nat}(hb:b≤w.heap.size)(hx:Zi w sa Aa na ca x)(la:na≤68719476736)(hy:Zi w sb Ab nb cb y)(lb:nb≤68719476736)(h0:y≠0)(hd:x.natAbs%y.natAbs=0):aQ aM 30 #[J sa Aa na ca,J sb Ab nb cb] w (Gv w (T2 (ZR b (x.tdiv y)) (Is (v4 0)))):=(OV hx la hy lb h0 hd).mono (Gv.imp (T2.imp (ZR.imp hb) Is.imp))
end
end Go.Proofs.YtkkabncicmhjfaaGreat
