/- Parts Bookw, Keep0, Keep, Keepw, Kp7a, Kp7m, Kp7b, Kp7c, joined. -/
import Derived.Test.YtkepckmdjncehaaGreatDoorW6

open Go renaming Addr → aC, Calls → aO, TypeId → aT, Value → aH, World → a6
open BitVec renaming ofInt → nL
open List renaming drop_eq_getElem_cons → m4, drop_zero → gU, getD_eq_getElem?_getD → bC, getElem?_eq_getElem → cJ, getElem?_map → kK, length_append → cL, length_take → bJ, mem_map → oJ, mem_replicate → wQ, range → j3, replicate → bP
open Nat renaming le_refl → b8, le_trans → aG, lt_of_lt_of_le → dF, min_eq_left → fT, mul_one → cI, pow_add → bX, two_pow_pos → dW, zero_add → f9, zero_le → bW
open Option.some renaming inj → l4
open Or renaming inr → bR
open Go.Proofs.Tryz renaming prog → aF
namespace Go.Proofs.YtkepckmdjncehaaGreatDoor
variable {A Aa Ab B C GA IA L NA PA PB PC WA XA dp sp:Option aC}{N ac b c ca cb e e' f g i ic j lb lw m n nc pac pan pbc pbn pfl q r s' wc wn x y:Nat}{T t:aT}{bs fs l pbs xs ys:List Nat}{k nn pk pn:Int}{ls:List Lst}{p:aC}{psa psb s sa sb:Bool}{us vs:List aH}
section
open Go.RowKit
theorem a1x:AggT aF 47 3:=⟨fun _=>by kernel_rfl,fun _=>by kernel_rfl⟩
theorem XV:(Tryz.prog.info? 25).map (fun i=>(i.zero,i.size,i.bytes))=some (some (.slice none 0 0),1,24):=by kernel_rfl
theorem XW:(Tryz.prog.info? 140).map (fun i=>(i.zero,i.size,i.bytes))=some (some (.slice none 0 0),1,24):=by kernel_rfl
set_option maxHeartbeats 4000000 in
theorem yV {w:a6}(hi:i≤1048576:=by omega)(hj:j≤1099511627776:=by omega):
    aO aF 155 #[.int .i64 i,.int .i64 j] w (Gv w (Is (.int .u64 ((jK i j:Nat):Int)))):=by
 refine bK Tryz.func155 rfl (n:=12) rfl (bq rfl) (args:= [.int .i64 i,.int .i64 j]) (bE [(0,.int .i64 i),(1,.int .i64 j)] ⟨rfl,rfl,trivial⟩ (sr (mv 1 rfl (a0 (sr (mv 1 rfl (bD rfl rfl (v:= .int .u64 (IntKind.u64.wrap ((i:Nat):Int))) (v':= .int .u64 i) (eD (by first | omega | exact hle64)) (aE rfl rfl rfl ((i*1048576:Nat):Int) (lX (a:=i) (b:=1048576) rfl rfl) (aE rfl rfl rfl ((4323455642275676160+(i*1048576):Nat):Int) (eW (a:=4323455642275676160) (b:=i*1048576) rfl rfl) (mv 1 rfl (bD rfl rfl (v:= .int .u64 (IntKind.u64.wrap ((j:Nat):Int))) (v':= .int .u64 j) (eD (by first | omega | exact hle64)) (aE rfl rfl rfl (((4323455642275676160+(i*1048576))+j:Nat):Int) (eW (a:=4323455642275676160+(i*1048576)) (b:=j) rfl rfl) (mv 1 rfl ?_)))))))))))))
 refine a0 (aM (aL [.int .u64 (((4323455642275676160+(i*1048576))+j:Nat):Int)] rfl ⟨rfl,trivial⟩ ?_))
 exact⟨_,rfl,(show Value.int .u64 _= .int .u64 ((jK i j:Nat):Int) by unfold jK;rfl),(Ext.refl w)⟩
set_option maxHeartbeats 4000000 in
theorem Z1 {w:a6}{xn xc gn gc:Nat}(hi:i≤1048576)(hx:Rd w XA xn xc (gA i xn))(hg:Rd w GA gn gc (gA i gn))(hn:gn=xn+80)(hl:xn≤1099511627000):
    aO aF 156 #[.int .i64 i,.slice XA xn xc,.slice GA gn gc] w (Gv w (Is (.bool true))):=by
 refine bK Tryz.func156 rfl (n:=43) rfl (bq rfl) (args:= [.int .i64 i,.slice XA xn xc,.slice GA gn gc]) (bE [(0,.int .i64 i),(1,.slice XA xn xc),(2,.slice GA gn gc)] ⟨rfl,rfl,rfl,trivial⟩ (sr (mv 1 rfl (a0 (aA (sr (mv 1 rfl (pu (v:= .int .i64 gn) rfl (mv 1 rfl (pu (v:= .int .i64 xn) rfl (aE rfl rfl rfl ((xn+80:Nat):Int) (bF (a:=xn) (b:=80) rfl rfl) (aB rfl rfl rfl false (lU (a:=gn) (b:=xn+80) rfl rfl) (aU ?_)))))))))))))
 refine aD (aI rfl (aN (aD (aA (sr (mv 1 rfl (a0 (bG ?_))))))))
 refine d4 (T:=a6×Nat)
  (fun⟨wr,j⟩=> [(0,.int .i64 i),(1,.slice XA xn xc),(2,.slice GA gn gc),(7,.int .i64 j)])
  (fun⟨wr,j⟩=>wr)
  (fun⟨wr,j⟩=>(Ext w wr)∧(j≤xn)∧(Rd wr XA xn xc (gA i xn))∧(Rd wr GA gn gc (gA i gn)))
  (fun⟨wr,j⟩=>xn-j)
  (⟨w,0⟩:a6×Nat) ⟨(Ext.refl w),(bW _),hx,hg⟩ rfl ⟨rfl,rfl,rfl,rfl,trivial⟩ ?_
 rintro⟨wr,j⟩ ⟨hw1,hj,rl1,rl2⟩
 refine cC [(0,.int .i64 i),(1,.slice XA xn xc),(2,.slice GA gn gc),(7,.int .i64 j)] wr rfl ⟨rfl,rfl,rfl,rfl,trivial⟩ (aA (aA ?_))
 by_cases hlt:j<xn
 · 
  refine a7 (mv 2 rfl (pu (v:= .int .i64 xn) rfl (aB rfl rfl rfl true (dB (a:=j) (b:=xn) rfl rfl) (a0 (aP rfl (aN (aD (aA (bG (aA ?_))))))))))
  have hmk:=CQ (i:=i) hlt
  obtain⟨p1,hp1,hc1,hv1⟩:=(rl1).at (i:=j) (by omega)
  refine gR eZ 8 [] [Is (.slice XA xn xc),Is (.int .i64 j),Is (.pointer (some p1)),Is (.int .u64 (((gA i xn).getD j 0:Nat):Int)),Is (.int .i64 i),Is (.int .i64 j),Is (.int .u64 ((jK i j:Nat):Int)),Is (.bool false)] [[],[],[0,1],[2],[],[],[4,5],[3,6]] [[],[],[0,1],[0,1,2],[],[],[4,5],[0,1,2,3,4,5,6]] rfl
   (aR rfl rfl (aK rfl rfl ?_) (aR rfl rfl (aK rfl rfl ?_) (aR rfl rfl (aK rfl rfl ?_) (aR rfl rfl (aK rfl rfl ?_) (aR rfl rfl (aK rfl rfl ?_) (aR rfl rfl (aK rfl rfl ?_) (aR rfl rfl (aK rfl rfl ?_) (aR rfl rfl (aK rfl rfl ?_) gP)))))))) ?_
  · 
   exact fun _ _=>aJ (mv 1 rfl (aQ rfl (Ext.refl _) rfl))
  · 
   exact fun _ _=>aJ (mv 1 rfl (aQ rfl (Ext.refl _) rfl))
  · 
   exact fun _ _=>dk rfl rfl (dk rfl rfl (aJ (bT rfl rfl rfl bU bN j rfl p1 hp1 (aQ rfl (Ext.refl _) rfl))))
  · 
   exact fun _ e19=>dk rfl rfl (aJ (aS rfl rfl (cZ d7 (e19.cell hc1)) (aQ rfl (Ext.refl _) rfl)))
  · 
   exact fun _ _=>aJ (mv 1 rfl (aQ rfl (Ext.refl _) rfl))
  · 
   exact fun _ _=>aJ (mv 1 rfl (aQ rfl (Ext.refl _) rfl))
  · 
   intro v29 e30
   have hw2:=hw1.trans e30
   refine dk rfl rfl (dk rfl rfl (aJ (cl (vs:= [.int .i64 i,.int .i64 j]) hw2 (yV) rfl (by kernel_rfl) fun xr43 v41 r43 e42 hw3=>?_)))
   obtain rfl:=r43
   exact aQ rfl e42 rfl
  · 
   exact fun _ _=>dk rfl rfl (dk rfl rfl (aJ (aB rfl rfl rfl false (lU (a:=(gA i xn).getD j 0) (b:=jK i j) rfl rfl) (aQ rfl (Ext.refl _) rfl))))
  · 
   intro v56 e57
   have hw2:=hw1.trans e57
   refine dk rfl rfl (dk rfl rfl (dk rfl rfl (dk rfl rfl (dk rfl rfl (dk rfl rfl (dk rfl rfl (dk rfl rfl (aJ (aU (gQ (aD (aI rfl (aN ?_)))))))))))))
   refine cA (aD (a7 (mv 1 rfl (aE rfl rfl rfl ((j+1:Nat):Int) (bF (a:=j) (b:=1) rfl rfl) (mv 1 rfl (aU (cH (⟨v56,j+1⟩:a6×Nat) ⟨hw2,(by omega),(rl1.ext e57),(rl2.ext e57)⟩ (show xn-(j+1)<xn-j by omega) rfl ⟨rfl,rfl,rfl,rfl,trivial⟩)))))))
 · 
  refine a7 (mv 2 rfl (pu (v:= .int .i64 xn) rfl (aB rfl rfl rfl false (cX (a:=j) (b:=xn) rfl rfl) (a0 (aI rfl (cR (cN (cP (cQ (aD (aA (sr (mv 1 rfl ?_)))))))))))))
  refine a0 (bG ?_)
  refine d4 (T:=a6×Nat)
   (fun⟨wr,j⟩=> [(0,.int .i64 i),(1,.slice XA xn xc),(2,.slice GA gn gc),(8,.int .i64 j)])
   (fun⟨wr,j⟩=>wr)
   (fun⟨wr,j⟩=>(Ext w wr)∧(j≤gn)∧(Rd wr XA xn xc (gA i xn))∧(Rd wr GA gn gc (gA i gn)))
   (fun⟨wr,j⟩=>gn-j)
   (⟨wr,0⟩:a6×Nat) ⟨hw1,(bW _),rl1,rl2⟩ rfl ⟨rfl,rfl,rfl,rfl,trivial⟩ ?_
  rintro⟨wr,j⟩ ⟨hw1,hj,rl1,rl2⟩
  refine cC [(0,.int .i64 i),(1,.slice XA xn xc),(2,.slice GA gn gc),(8,.int .i64 j)] wr rfl ⟨rfl,rfl,rfl,rfl,trivial⟩ (aA (aA ?_))
  by_cases hlt:j<gn
  · 
   refine a7 (mv 2 rfl (pu (v:= .int .i64 gn) rfl (aB rfl rfl rfl true (dB (a:=j) (b:=gn) rfl rfl) (a0 (aP rfl (aN (aD (aA (bG (aA ?_))))))))))
   have hmk:=CQ (i:=i) hlt
   obtain⟨p98,hp98,hc98,hv98⟩:=(rl2).at (i:=j) (by omega)
   refine gR eZ 8 [] [Is (.slice GA gn gc),Is (.int .i64 j),Is (.pointer (some p98)),Is (.int .u64 (((gA i gn).getD j 0:Nat):Int)),Is (.int .i64 i),Is (.int .i64 j),Is (.int .u64 ((jK i j:Nat):Int)),Is (.bool false)] [[],[],[0,1],[2],[],[],[4,5],[3,6]] [[],[],[0,1],[0,1,2],[],[],[4,5],[0,1,2,3,4,5,6]] rfl
    (aR rfl rfl (aK rfl rfl ?_) (aR rfl rfl (aK rfl rfl ?_) (aR rfl rfl (aK rfl rfl ?_) (aR rfl rfl (aK rfl rfl ?_) (aR rfl rfl (aK rfl rfl ?_) (aR rfl rfl (aK rfl rfl ?_) (aR rfl rfl (aK rfl rfl ?_) (aR rfl rfl (aK rfl rfl ?_) gP)))))))) ?_
   · 
    exact fun _ _=>aJ (mv 1 rfl (aQ rfl (Ext.refl _) rfl))
   · 
    exact fun _ _=>aJ (mv 1 rfl (aQ rfl (Ext.refl _) rfl))
   · 
    exact fun _ _=>dk rfl rfl (dk rfl rfl (aJ (bT rfl rfl rfl bU bN j rfl p98 hp98 (aQ rfl (Ext.refl _) rfl))))
   · 
    exact fun _ e116=>dk rfl rfl (aJ (aS rfl rfl (cZ d7 (e116.cell hc98)) (aQ rfl (Ext.refl _) rfl)))
   · 
    exact fun _ _=>aJ (mv 1 rfl (aQ rfl (Ext.refl _) rfl))
   · 
    exact fun _ _=>aJ (mv 1 rfl (aQ rfl (Ext.refl _) rfl))
   · 
    intro v126 e127
    have hw2:=hw1.trans e127
    refine dk rfl rfl (dk rfl rfl (aJ (cl (vs:= [.int .i64 i,.int .i64 j]) hw2 (yV) rfl (by kernel_rfl) fun xr140 v138 r140 e139 hw3=>?_)))
    obtain rfl:=r140
    exact aQ rfl e139 rfl
   · 
    exact fun _ _=>dk rfl rfl (dk rfl rfl (aJ (aB rfl rfl rfl false (lU (a:=(gA i gn).getD j 0) (b:=jK i j) rfl rfl) (aQ rfl (Ext.refl _) rfl))))
   · 
    intro v153 e154
    have hw2:=hw1.trans e154
    refine dk rfl rfl (dk rfl rfl (dk rfl rfl (dk rfl rfl (dk rfl rfl (dk rfl rfl (dk rfl rfl (dk rfl rfl (aJ (aU (gQ (aD (aI rfl (aN ?_)))))))))))))
    refine cA (aD (a7 (mv 1 rfl (aE rfl rfl rfl ((j+1:Nat):Int) (bF (a:=j) (b:=1) rfl rfl) (mv 1 rfl (aU (cH (⟨v153,j+1⟩:a6×Nat) ⟨hw2,(by omega),(rl1.ext e154),(rl2.ext e154)⟩ (show gn-(j+1)<gn-j by omega) rfl ⟨rfl,rfl,rfl,rfl,trivial⟩)))))))
  · 
   refine a7 (mv 2 rfl (pu (v:= .int .i64 gn) rfl (aB rfl rfl rfl false (cX (a:=j) (b:=gn) rfl rfl) (a0 (aI rfl (cR (cN (cP (cQ (aD (sr (mv 1 rfl (aU ?_)))))))))))))
   refine aD (aM (aL [.bool true] rfl ⟨rfl,trivial⟩ ?_))
   exact⟨_,rfl,rfl,hw1⟩
set_option maxHeartbeats 4000000 in
theorem YJ {w:a6}(hB:Bk w g 47 [.slice WA ls.length wc,.slice IA 0 ic,.slice NA 0 nc])(hW:Own w lw 22 1 WA ls.length wc (ls.map Lst.v))(hal:Al0 w lb ls)(hlb:lb≤w.heap.size)(hN:ls.length≤1048576)(hln:∀a,(ls.getD a Lst.z).n≤1099511620000):
    aO aF 76 #[.pointer (some ⟨g,0,none⟩)] w (fun e w'=>e= .returned (.bool true)∧UpU lb w w'):=by
 refine bK Tryz.func76 rfl (n:=99) rfl (bq rfl) (args:= [.pointer (some ⟨g,0,none⟩)]) (bE [(0,.pointer (some ⟨g,0,none⟩))] ⟨rfl,trivial⟩ (sr (mv 1 rfl (a0 (aA (sr (mv 1 rfl (a0 (bG ?_)))))))))
 refine d4 (T:=a6×Nat)
  (fun⟨wr,i⟩=> [(0,.pointer (some ⟨g,0,none⟩)),(3,.int .i64 i)])
  (fun⟨wr,i⟩=>wr)
  (fun⟨wr,i⟩=>(UpU lb w wr)∧(Bk wr g 47 [.slice WA ls.length wc,.slice IA 0 ic,.slice NA 0 nc])∧(Own wr lw 22 1 WA ls.length wc (ls.map Lst.v))∧(Al1 wr lb ls i 0)∧(i≤ls.length))
  (fun⟨wr,i⟩=>ls.length-i)
  (⟨w,0⟩:a6×Nat) ⟨(UpU.refl lb w),hB,hW,hal,(bW _)⟩ rfl ⟨rfl,rfl,trivial⟩ ?_
 rintro⟨wr,i⟩ ⟨hw1,hB,hW,hal,hi⟩
 refine cC [(0,.pointer (some ⟨g,0,none⟩)),(3,.int .i64 i)] wr rfl ⟨rfl,rfl,trivial⟩ (aA (aA ?_))
 by_cases hin:i<ls.length
 · 
  refine a7 (mv 2 rfl (pf g 0 rfl (pf g 0 rfl (aS rfl rfl (aY (fun _=>by kernel_rfl) hB rfl) (pu (v:= .int .i64 ((ls.length:Nat):Int)) rfl (aB rfl rfl rfl true (dB (a:=i) (b:=ls.length) rfl rfl) (a0 (aP rfl (aN (aD (aA (bG (aA ?_)))))))))))))
  have hlni:=hln i
  refine a7 (mv 1 rfl (pf g 0 rfl (pf g 0 rfl (aS rfl rfl (aY (fun _=>by kernel_rfl) hB rfl) (mv 1 rfl ?_)))))
  obtain⟨p1,hp1,hc1⟩:=(hW).atL (i:=i) (by omega)
  refine bT rfl rfl rfl oO oQ i rfl p1 hp1 (aS rfl rfl (cZ s9 hc1) (mv 1 rfl (a0 (sr (mv 1 rfl (a0 (bG ?_)))))))
  refine d4 (T:=a6×Nat)
   (fun⟨wr,j⟩=> [(0,.pointer (some ⟨g,0,none⟩)),(3,.int .i64 i),(4,.slice ((ls.getD i Lst.z).A) ((ls.getD i Lst.z).n) ((ls.getD i Lst.z).c)),(5,.int .i64 j)])
   (fun⟨wr,j⟩=>wr)
   (fun⟨wr,j⟩=>(UpU lb w wr)∧(Bk wr g 47 [.slice WA ls.length wc,.slice IA 0 ic,.slice NA 0 nc])∧(Own wr lw 22 1 WA ls.length wc (ls.map Lst.v))∧(Al1 wr lb ls i j)∧(j≤(ls.getD i Lst.z).n))
   (fun⟨wr,j⟩=>(ls.getD i Lst.z).n-j)
   (⟨wr,0⟩:a6×Nat) ⟨hw1,hB,hW,hal,(bW _)⟩ rfl ⟨rfl,rfl,rfl,rfl,trivial⟩ ?_
  rintro⟨wr,j⟩ ⟨hw1,hB,hW,hal,hj⟩
  refine cC [(0,.pointer (some ⟨g,0,none⟩)),(3,.int .i64 i),(4,.slice ((ls.getD i Lst.z).A) ((ls.getD i Lst.z).n) ((ls.getD i Lst.z).c)),(5,.int .i64 j)] wr rfl ⟨rfl,rfl,rfl,rfl,trivial⟩ (aA (aA ?_))
  by_cases hjn:j<(ls.getD i Lst.z).n
  · 
   refine a7 (mv 2 rfl (pu (v:= .int .i64 (((ls.getD i Lst.z).n:Nat):Int)) rfl (aB rfl rfl rfl true (dB (a:=j) (b:=(ls.getD i Lst.z).n) rfl rfl) (a0 (aP rfl (aN (aD (aA (bG (a7 (mv 4 rfl (dD rfl rfl (vs:= [.int .i64 i,.int .i64 j]) (by kernel_rfl) (by decide) (yV) ?_))))))))))))
   rintro _ v2 ⟨xr4,rfl,r4,e3⟩
   refine dE ?_
   have hw2:UpU lb w v2:=hw1.then_ext e3
   obtain rfl:=r4
   obtain⟨p5,hp5⟩:=((hal.ext e3)).addr hin (k:=j) (by omega)
   refine bT rfl rfl rfl bU bN j rfl p5 hp5 (P2 rfl rfl rfl (hal.ext e3) hin (by omega) hp5 fun v6 al7 uu8=>?_)
   have hw3:UpU lb w v6:=hw2.trans uu8
   refine aU (cA (aD (a7 (mv 1 rfl (aE rfl rfl rfl ((j+1:Nat):Int) (bF (a:=j) (b:=1) rfl rfl) (mv 1 rfl (aU (cH (⟨v6,j+1⟩:a6×Nat) ⟨hw3,(uu8.bk (hB.ext e3) (by decide)),(uu8.own (hW.ext e3) (by decide)),al7,(by omega)⟩ (show (ls.getD i Lst.z).n-(j+1)<(ls.getD i Lst.z).n-j by omega) rfl ⟨rfl,rfl,rfl,rfl,trivial⟩))))))))
  · 
   refine a7 (mv 2 rfl (pu (v:= .int .i64 (((ls.getD i Lst.z).n:Nat):Int)) rfl (aB rfl rfl rfl false (cX (a:=j) (b:=(ls.getD i Lst.z).n) rfl rfl) (a0 (aI rfl (cR (cN (cP (cQ (cA (aD (a7 (mv 1 rfl ?_)))))))))))))
   refine aE rfl rfl rfl ((i+1:Nat):Int) (bF (a:=i) (b:=1) rfl rfl) (mv 1 rfl (aU (cH (⟨wr,i+1⟩:a6×Nat) ⟨hw1,hB,hW,((hal).next (by omega)),(by omega)⟩ (show ls.length-(i+1)<ls.length-i by omega) rfl ⟨rfl,rfl,trivial⟩)))
 · 
  have hie:i=ls.length:=by omega
  rw [hie] at hal
  have hal2:=Al2.start hal
  refine a7 (mv 2 rfl (pf g 0 rfl (pf g 0 rfl (aS rfl rfl (aY (fun _=>by kernel_rfl) hB rfl) (pu (v:= .int .i64 ((ls.length:Nat):Int)) rfl (aB rfl rfl rfl false (cX (a:=i) (b:=ls.length) rfl rfl) (a0 (aI rfl (cR (cN (cP (cQ (aD ?_)))))))))))))
  refine sr (mv 1 rfl (pf g 0 rfl (pf g 0 rfl (aS rfl rfl (aY (fun _=>by kernel_rfl) hB rfl) (pu (v:= .int .i64 ((ls.length:Nat):Int)) rfl (l7 rfl (k:=ls.length) rfl rfl rfl Tryz.underlying36 KP rfl fun g9 v10 hg11 hb12 e13=>?_))))))
  have ge14:w.heap.size≤g9:=by rw [←hg11];exact hw1.size
  have hwone:∀p,WA=some p→p.block≠g9:=fun p hp=>by have:=((hW).block p hp).2;omega
  have q15:g<g9:=by rw [←hg11];exact hB.lt
  clear hg11
  have hw2:UpU lb w v10:=hw1.then_ext e13
  refine mv 1 rfl (a0 (aA (sr (mv 1 rfl (a0 (bG ?_))))))
  refine d4 (T:=a6×Nat×List Lst×List aH)
   (fun⟨wr,i,gs,gv⟩=> [(0,.pointer (some ⟨g,0,none⟩)),(6,.slice (some ⟨g9,0,none⟩) ls.length ls.length),(7,.int .i64 i)])
   (fun⟨wr,i,gs,gv⟩=>wr)
   (fun⟨wr,i,gs,gv⟩=>(UpU lb w wr)∧(Bk wr g 47 [.slice WA ls.length wc,.slice IA 0 ic,.slice NA 0 nc])∧(Own wr lw 22 1 WA ls.length wc (ls.map Lst.v))∧(Bk wr g9 22 gv)∧(gv.length=ls.length)∧(Al2 wr lb ls gs)∧(i≤ls.length)∧(∀a,i≤a→gs.getD a Lst.z=ls.getD a Lst.z)∧(∀a,a<i→(gs.getD a Lst.z).n=(ls.getD a Lst.z).n+80)∧(∀a,a<i→a<ls.length→gv.getD a undef= .slice (gs.getD a Lst.z).A (gs.getD a Lst.z).n (gs.getD a Lst.z).c))
   (fun⟨wr,i,gs,gv⟩=>ls.length-i)
   (⟨v10,0,ls,_⟩:a6×Nat×List Lst×List aH) ⟨hw2,(hB.ext e13),(hW.ext e13),hb12,(List.length_replicate),(hal2.ext e13),(bW _),(fun _ _=>rfl),(fun a ha=>absurd ha (Nat.not_lt_zero _)),(fun a ha=>absurd ha (Nat.not_lt_zero _))⟩ rfl ⟨rfl,rfl,rfl,trivial⟩ ?_
  rintro⟨wr,i,gs,gv⟩ ⟨hw1,hB,hW,hG,hgl,hal,hi,hg1,hg2,hgv⟩
  refine cC [(0,.pointer (some ⟨g,0,none⟩)),(6,.slice (some ⟨g9,0,none⟩) ls.length ls.length),(7,.int .i64 i)] wr rfl ⟨rfl,rfl,rfl,trivial⟩ (aA (aA ?_))
  by_cases hin:i<ls.length
  · 
   refine a7 (mv 2 rfl (pf g 0 rfl (pf g 0 rfl (aS rfl rfl (aY (fun _=>by kernel_rfl) hB rfl) (pu (v:= .int .i64 ((ls.length:Nat):Int)) rfl (aB rfl rfl rfl true (dB (a:=i) (b:=ls.length) rfl rfl) (a0 (aP rfl (aN (aD (aA (bG (aA ?_)))))))))))))
   have hlni:=hln i
   refine a7 (mv 1 rfl (pf g 0 rfl (pf g 0 rfl (aS rfl rfl (aY (fun _=>by kernel_rfl) hB rfl) (mv 1 rfl ?_)))))
   obtain⟨p16,hp16,hc16⟩:=(hW).atL (i:=i) (by omega)
   refine bT rfl rfl rfl oO oQ i rfl p16 hp16 (aS rfl rfl (cZ s9 hc16) (mv 1 rfl (a0 (aA (aA ?_)))))
   have hgi:=(hg1 i (b8 _)).symm
   refine bE [(0,.pointer (some ⟨g,0,none⟩)),(6,.slice (some ⟨g9,0,none⟩) ls.length ls.length),(7,.int .i64 i),(45,.int .i64 i),(46,.pointer (some ⟨g,0,none⟩)),(47,.pointer (some ⟨g,0,none⟩)),(48,.pointer (some ⟨g,0,none⟩)),(49,.slice WA ls.length wc),(50,.int .i64 ((ls.length:Nat):Int)),(51,.bool true),(8,.slice ((ls.getD i Lst.z).A) ((ls.getD i Lst.z).n) ((ls.getD i Lst.z).c))] ⟨rfl,rfl,rfl,rfl,rfl,rfl,rfl,rfl,rfl,rfl,rfl,trivial⟩ ?_
   rw [hgi]
   refine a7 (mv 1 rfl (a0 (bG ?_)))
   refine d4 (T:=a6×Nat×List Lst)
    (fun⟨wr,j,gs2⟩=> [(0,.pointer (some ⟨g,0,none⟩)),(6,.slice (some ⟨g9,0,none⟩) ls.length ls.length),(7,.int .i64 i),(8,.slice ((gs2.getD i Lst.z).A) ((gs2.getD i Lst.z).n) ((gs2.getD i Lst.z).c)),(9,.int .i64 j)])
    (fun⟨wr,j,gs2⟩=>wr)
    (fun⟨wr,j,gs2⟩=>(UpU lb w wr)∧(Bk wr g 47 [.slice WA ls.length wc,.slice IA 0 ic,.slice NA 0 nc])∧(Own wr lw 22 1 WA ls.length wc (ls.map Lst.v))∧(Bk wr g9 22 gv)∧(Al2 wr lb ls gs2)∧(j≤80)∧(∀a,a≠i→gs2.getD a Lst.z=gs.getD a Lst.z)∧((gs2.getD i Lst.z).n=(ls.getD i Lst.z).n+j))
    (fun⟨wr,j,gs2⟩=>80-j)
    (⟨wr,0,gs⟩:a6×Nat×List Lst) ⟨hw1,hB,hW,hG,hal,(bW _),(fun _ _=>rfl),(by rw [hgi];rfl)⟩ rfl ⟨rfl,rfl,rfl,rfl,rfl,trivial⟩ ?_
   rintro⟨wr,j,gs2⟩ ⟨hw1,hB,hW,hG,hal,hj,hs1,hs2⟩
   refine cC [(0,.pointer (some ⟨g,0,none⟩)),(6,.slice (some ⟨g9,0,none⟩) ls.length ls.length),(7,.int .i64 i),(8,.slice ((gs2.getD i Lst.z).A) ((gs2.getD i Lst.z).n) ((gs2.getD i Lst.z).c)),(9,.int .i64 j)] wr rfl ⟨rfl,rfl,rfl,rfl,rfl,trivial⟩ (aA (aA ?_))
   by_cases hjn:j<80
   · 
    refine a7 (mv 1 rfl (aB rfl rfl rfl true (dB (a:=j) (b:=80) rfl rfl) (a0 (aP rfl (aN (aD (aA (bG (a7 (mv 3 rfl (pu (v:= .int .i64 (((gs2.getD i Lst.z).n:Nat):Int)) rfl (dD rfl rfl (vs:= [.int .i64 i,.int .i64 (((gs2.getD i Lst.z).n:Nat):Int)]) (by kernel_rfl) (by decide) (yV) ?_))))))))))))
    rintro _ v17 ⟨xr19,rfl,r19,e18⟩
    refine dE ?_
    have hw2:UpU lb w v17:=hw1.then_ext e18
    obtain rfl:=r19
    refine dQ rfl rfl (k:=1) (e:=65) [.int .u64 ((jK i ((gs2.getD i Lst.z).n):Nat):Int)] (fun _=>by kernel_rfl) fun g20 v21 nb=>?_
    have hb22:=nb.bk
    have e23:=nb.ext
    clear nb
    have hw3:UpU lb w v21:=hw2.then_ext e23
    refine P4 rfl rfl rfl (hal.ext (e18.trans e23)) (aG hlb hw3.size) hin hb22 (by omega) (by decide) fun A24 c25 v26 al27 uu28=>?_
    have hw4:UpU lb w v26:=hw3.trans uu28
    refine mv 1 rfl (aU (cA (aD ?_)))
    have hnew:(gs2.set i ⟨A24,(gs2.getD i Lst.z).n+1,c25⟩).getD i Lst.z=(⟨A24,(gs2.getD i Lst.z).n+1,c25⟩:Lst):=rT (by rw [hal.len];exact hin)
    refine bE [(0,.pointer (some ⟨g,0,none⟩)),(6,.slice (some ⟨g9,0,none⟩) ls.length ls.length),(7,.int .i64 i),(8,.slice ((⟨A24,(gs2.getD i Lst.z).n+1,c25⟩:Lst).A) ((⟨A24,(gs2.getD i Lst.z).n+1,c25⟩:Lst).n) ((⟨A24,(gs2.getD i Lst.z).n+1,c25⟩:Lst).c)),(9,.int .i64 j),(61,.int .i64 j),(62,.bool true)] ⟨rfl,rfl,rfl,rfl,rfl,rfl,rfl,trivial⟩ ?_
    rw [←hnew]
    refine a7 (mv 1 rfl (aE rfl rfl rfl ((j+1:Nat):Int) (bF (a:=j) (b:=1) rfl rfl) (mv 1 rfl (aU (cH (⟨v26,j+1,gs2.set i ⟨A24,(gs2.getD i Lst.z).n+1,c25⟩⟩:a6×Nat×List Lst) ⟨hw4,(uu28.bk (hB.ext (e18.trans e23)) (by decide)),(uu28.own (hW.ext (e18.trans e23)) (by decide)),(uu28.bk (hG.ext (e18.trans e23)) (by decide)),al27,(by omega),(fun a ha=>(rU ha).trans (hs1 a ha)),(by rw [hnew];show (gs2.getD i Lst.z).n+1=_;omega)⟩ (show 80-(j+1)<80-j by omega) rfl ⟨rfl,rfl,rfl,rfl,rfl,trivial⟩)))))
   · 
    have hj80:j=80:=by omega
    refine a7 (mv 1 rfl (aB rfl rfl rfl false (cX (a:=j) (b:=80) rfl rfl) (a0 (aI rfl (cR (cN (cP (cQ (aD (a7 (mv 3 rfl (bT rfl rfl rfl oO oQ i rfl ⟨g9,i,none⟩ (dP _ _) ?_))))))))))))
    have hb30:=hG
    refine eB rfl rfl rfl oQ rfl hb30 (by omega) rfl (gv.set i (.slice ((gs2.getD i Lst.z).A) ((gs2.getD i Lst.z).n) ((gs2.getD i Lst.z).c))) rfl fun v29 hb31 u32 hs33=>?_
    have hw2:UpU lb w v29:=hw1.upd_new u32 ge14 hlb
    refine aU (cA (aD (a7 (mv 1 rfl (aE rfl rfl rfl ((i+1:Nat):Int) (bF (a:=i) (b:=1) rfl rfl) (mv 1 rfl (aU (cH (⟨v29,i+1,gs2,gv.set i (.slice ((gs2.getD i Lst.z).A) ((gs2.getD i Lst.z).n) ((gs2.getD i Lst.z).c))⟩:a6×Nat×List Lst×List aH) ⟨hw2,(hB.updN u32 (by omega)),(hW.upd u32 hwone),hb31,(by rw [List.length_set];exact hgl),(hal.updT hb30 (by decide) u32),(by omega),(fun a ha=>(hs1 a (by omega)).trans (hg1 a (by omega))),(fun a ha=>by by_cases e:a=i;(· subst e;rw [hs2];omega);(· rw [hs1 a e];exact hg2 a (by omega))),(fun a ha hl=>by by_cases e:a=i;(· subst e;rw [rT (by omega)]);(· rw [rU e,hs1 a e];exact hgv a (by omega) hl))⟩ (show ls.length-(i+1)<ls.length-i by omega) rfl ⟨rfl,rfl,rfl,trivial⟩))))))))
  · 
   have hie:i=ls.length:=by omega
   rw [hie] at hg2 hgv
   refine a7 (mv 2 rfl (pf g 0 rfl (pf g 0 rfl (aS rfl rfl (aY (fun _=>by kernel_rfl) hB rfl) (pu (v:= .int .i64 ((ls.length:Nat):Int)) rfl (aB rfl rfl rfl false (cX (a:=i) (b:=ls.length) rfl rfl) (a0 (aI rfl (cR (cN (cP (cQ (aD ?_)))))))))))))
   refine aA (sr (mv 1 rfl (a0 (bG ?_))))
   refine d4 (T:=a6×Nat)
    (fun⟨wr,k⟩=> [(0,.pointer (some ⟨g,0,none⟩)),(6,.slice (some ⟨g9,0,none⟩) ls.length ls.length),(10,.int .i64 k)])
    (fun⟨wr,k⟩=>wr)
    (fun⟨wr,k⟩=>(UpU lb w wr)∧(Bk wr g 47 [.slice WA ls.length wc,.slice IA 0 ic,.slice NA 0 nc])∧(Own wr lw 22 1 WA ls.length wc (ls.map Lst.v))∧(Bk wr g9 22 gv)∧(Al2 wr lb ls gs)∧(k≤ls.length))
    (fun⟨wr,k⟩=>ls.length-k)
    (⟨wr,0⟩:a6×Nat) ⟨hw1,hB,hW,hG,hal,(bW _)⟩ rfl ⟨rfl,rfl,rfl,trivial⟩ ?_
   rintro⟨wr,k⟩ ⟨hw1,hB,hW,hG,hal,hk⟩
   refine cC [(0,.pointer (some ⟨g,0,none⟩)),(6,.slice (some ⟨g9,0,none⟩) ls.length ls.length),(10,.int .i64 k)] wr rfl ⟨rfl,rfl,rfl,trivial⟩ (aA (aA ?_))
   by_cases hkn:k<ls.length
   · 
    refine a7 (mv 2 rfl (pf g 0 rfl (pf g 0 rfl (aS rfl rfl (aY (fun _=>by kernel_rfl) hB rfl) (pu (v:= .int .i64 ((ls.length:Nat):Int)) rfl (aB rfl rfl rfl true (dB (a:=k) (b:=ls.length) rfl rfl) (a0 (aP rfl (aN (aD (aA (bG (aA ?_)))))))))))))
    have hlnk:=hln k
    have hgnk:=hg2 k hkn
    obtain⟨p34,hp34,hc34⟩:=(hW).atL (i:=k) (by omega)
    refine gR eZ 14 [] [Is (.int .i64 k),Is (.pointer (some ⟨g,0,none⟩)),Is (.pointer (some ⟨g,0,none⟩)),Is (.pointer (some ⟨g,0,none⟩)),Is (.slice WA ls.length wc),Is (.int .i64 k),Is (.pointer (some p34)),Is (.slice ((ls.getD k Lst.z).A) ((ls.getD k Lst.z).n) ((ls.getD k Lst.z).c)),Is (.slice (some ⟨g9,0,none⟩) ls.length ls.length),Is (.int .i64 k),Is (.pointer (some (⟨g9,k,none⟩))),Is (.slice ((gs.getD k Lst.z).A) ((gs.getD k Lst.z).n) ((gs.getD k Lst.z).c)),Is (.bool true),Is (.bool false)] [[],[],[1],[2],[3],[],[4,5],[6],[],[],[8,9],[10],[0,7,11],[12]] [[],[],[1],[1,2],[1,2,3],[],[1,2,3,4,5],[1,2,3,4,5,6],[],[],[8,9],[8,9,10],[0,1,2,3,4,5,6,7,8,9,10,11],[0,1,2,3,4,5,6,7,8,9,10,11,12]] rfl
     (aR rfl rfl (aK rfl rfl ?_) (aR rfl rfl (aK rfl rfl ?_) (aR rfl rfl (aK rfl rfl ?_) (aR rfl rfl (aK rfl rfl ?_) (aR rfl rfl (aK rfl rfl ?_) (aR rfl rfl (aK rfl rfl ?_) (aR rfl rfl (aK rfl rfl ?_) (aR rfl rfl (aK rfl rfl ?_) (aR rfl rfl (aK rfl rfl ?_) (aR rfl rfl (aK rfl rfl ?_) (aR rfl rfl (aK rfl rfl ?_) (aR rfl rfl (aK rfl rfl ?_) (aR rfl rfl (aK rfl rfl ?_) (aR rfl rfl (aK rfl rfl ?_) gP)))))))))))))) ?_
    · 
     intro v35 e36
     have hw2:UpU lb w v35:=hw1.then_ext e36
     refine aJ (mv 1 rfl ?_)
     exact aQ rfl (Ext.refl _) rfl
    · 
     intro v37 e38
     have hw2:UpU lb w v37:=hw1.then_ext e38
     refine aJ (mv 1 rfl ?_)
     exact aQ rfl (Ext.refl _) rfl
    · 
     intro v39 e40
     have hw2:UpU lb w v39:=hw1.then_ext e40
     refine dk rfl rfl (aJ (pf g 0 rfl ?_))
     exact aQ rfl (Ext.refl _) rfl
    · 
     intro v46 e47
     have hw2:UpU lb w v46:=hw1.then_ext e47
     refine dk rfl rfl (aJ (pf g 0 rfl ?_))
     exact aQ rfl (Ext.refl _) rfl
    · 
     intro v53 e54
     have hw2:UpU lb w v53:=hw1.then_ext e54
     refine dk rfl rfl (aJ (aS rfl rfl (aY (fun _=>by kernel_rfl) (hB.ext e54) rfl) ?_))
     exact aQ rfl (Ext.refl _) rfl
    · 
     intro v60 e61
     have hw2:UpU lb w v60:=hw1.then_ext e61
     refine aJ (mv 1 rfl ?_)
     exact aQ rfl (Ext.refl _) rfl
    · 
     intro v62 e63
     have hw2:UpU lb w v62:=hw1.then_ext e63
     refine dk rfl rfl (dk rfl rfl (aJ (bT rfl rfl rfl oO oQ k rfl p34 hp34 ?_)))
     exact aQ rfl (Ext.refl _) rfl
    · 
     intro v74 e75
     have hw2:UpU lb w v74:=hw1.then_ext e75
     refine dk rfl rfl (aJ (aS rfl rfl (cZ s9 (e75.cell hc34)) ?_))
     exact aQ rfl (Ext.refl _) rfl
    · 
     intro v81 e82
     have hw2:UpU lb w v81:=hw1.then_ext e82
     refine aJ (mv 1 rfl ?_)
     exact aQ rfl (Ext.refl _) rfl
    · 
     intro v83 e84
     have hw2:UpU lb w v83:=hw1.then_ext e84
     refine aJ (mv 1 rfl ?_)
     exact aQ rfl (Ext.refl _) rfl
    · 
     intro v85 e86
     have hw2:UpU lb w v85:=hw1.then_ext e86
     refine dk rfl rfl (dk rfl rfl (aJ (bT rfl rfl rfl oO oQ k rfl ⟨g9,k,none⟩ (dP _ _) ?_)))
     exact aQ rfl (Ext.refl _) rfl
    · 
     intro v97 fN
     have hw2:UpU lb w v97:=hw1.then_ext fN
     refine dk rfl rfl (aJ (aS rfl rfl (cZ s9 (by have h:=((hG.ext fN)).cell (i:=k) (by omega);rw [hgv k (by omega) (by omega)] at h;exact h)) ?_))
     exact aQ rfl (Ext.refl _) rfl
    · 
     intro v104 e105
     have hw2:UpU lb w v104:=hw1.then_ext e105
     refine dk rfl rfl (dk rfl rfl (dk rfl rfl (aJ (dD rfl rfl (vs:= [.int .i64 k,.slice ((ls.getD k Lst.z).A) ((ls.getD k Lst.z).n) ((ls.getD k Lst.z).c),.slice ((gs.getD k Lst.z).A) ((gs.getD k Lst.z).n) ((gs.getD k Lst.z).c)]) (by kernel_rfl) (by decide) (Z1 (by omega) ((hal.ext e105).rd1 hkn hN (by omega)) ((hal.ext e105).rd2 hkn hN (by omega)) (by omega) (by omega)) ?_))))
     rintro _ v121 ⟨xr123,rfl,r123,e122⟩
     refine dE ?_
     have hw3:UpU lb w v121:=hw2.then_ext e122
     obtain rfl:=r123
     exact aQ rfl e122 rfl
    · 
     intro v124 e125
     have hw2:UpU lb w v124:=hw1.then_ext e125
     refine dk rfl rfl (aJ (pu (v:= .bool false) rfl ?_))
     exact aQ rfl (Ext.refl _) rfl
    · 
     intro v131 e132
     have hw2:UpU lb w v131:=hw1.then_ext e132
     refine dk rfl rfl (dk rfl rfl (dk rfl rfl (dk rfl rfl (dk rfl rfl (dk rfl rfl (dk rfl rfl (dk rfl rfl (dk rfl rfl (dk rfl rfl (dk rfl rfl (dk rfl rfl (dk rfl rfl (dk rfl rfl ?_)))))))))))))
     refine aJ (aU (gQ (aD (aI rfl (aN (cA (aD (a7 (mv 1 rfl (aE rfl rfl rfl ((k+1:Nat):Int) (bF (a:=k) (b:=1) rfl rfl) (mv 1 rfl (aU (cH (⟨v131,k+1⟩:a6×Nat) ⟨hw2,(hB.ext e132),(hW.ext e132),(hG.ext e132),(hal.ext e132),(by omega)⟩ (show ls.length-(k+1)<ls.length-k by omega) rfl ⟨rfl,rfl,rfl,trivial⟩)))))))))))))
   · 
    refine a7 (mv 2 rfl (pf g 0 rfl (pf g 0 rfl (aS rfl rfl (aY (fun _=>by kernel_rfl) hB rfl) (pu (v:= .int .i64 ((ls.length:Nat):Int)) rfl (aB rfl rfl rfl false (cX (a:=k) (b:=ls.length) rfl rfl) (a0 (aI rfl (cR (cN (cP (cQ (aD ?_)))))))))))))
    refine sr (mv 1 rfl (a0 (aM (aL [.bool true] rfl ⟨rfl,trivial⟩ ?_))))
    exact⟨rfl,hw1⟩
set_option maxHeartbeats 4000000 in
theorem Z0 {w:a6}(hB:Bk w g 47 [.slice WA wn wc,.slice IA 0 ic,.slice NA 0 nc]):
    aO aF 77 #[.pointer (some ⟨g,0,none⟩)] w (Gv w (Is (.bool true))):=by
 refine bK Tryz.func77 rfl (n:=154) rfl (bq rfl) (args:= [.pointer (some ⟨g,0,none⟩)]) (bE [(0,.pointer (some ⟨g,0,none⟩))] ⟨rfl,trivial⟩ (sr (mv 1 rfl (a0 (aA (sr (mv 1 rfl (a0 (bG ?_)))))))))
 refine d4 (T:=a6×Nat)
  (fun⟨wr,i⟩=> [(0,.pointer (some ⟨g,0,none⟩)),(3,.int .i64 i)])
  (fun⟨wr,i⟩=>wr)
  (fun⟨wr,i⟩=>(Ext w wr)∧(Bk wr g 47 [.slice WA wn wc,.slice IA 0 ic,.slice NA 0 nc]))
  (fun⟨wr,i⟩=>i)
  (⟨w,0⟩:a6×Nat) ⟨(Ext.refl w),hB⟩ rfl ⟨rfl,rfl,trivial⟩ ?_
 rintro⟨wr,i⟩ ⟨hw1,hB⟩
 refine cC [(0,.pointer (some ⟨g,0,none⟩)),(3,.int .i64 i)] wr rfl ⟨rfl,rfl,trivial⟩ (aA (sr (mv 2 rfl (pf g 0 rfl (pf g 1 rfl (aS rfl rfl (aY (fun _=>by kernel_rfl) hB rfl) (pu (v:= .int .i64 0) rfl (aB rfl rfl rfl false (cX (a:=i) (b:=0) rfl rfl) (a0 (aI rfl (cR (cN (cP ?_)))))))))))))
 refine cQ (aD (sr (mv 1 rfl (pf g 0 rfl (pf g 1 rfl (aS rfl rfl (aY (fun _=>by kernel_rfl) hB rfl) (pu (v:= .int .i64 0) rfl (l7 rfl (k:=0) rfl rfl rfl Tryz.underlying44 XV rfl fun g1 v2 hg3 hb4 e5=>?_))))))))
 have ge6:w.heap.size≤g1:=by rw [←hg3];exact hw1.size
 clear hg3
 have hw2:=hw1.trans e5
 refine mv 1 rfl (a0 (aA (sr (mv 1 rfl (a0 (bG ?_))))))
 refine d4 (T:=a6×Nat)
  (fun⟨wr,i⟩=> [(0,.pointer (some ⟨g,0,none⟩)),(6,.slice (some ⟨g1,0,none⟩) 0 0),(7,.int .i64 i)])
  (fun⟨wr,i⟩=>wr)
  (fun⟨wr,i⟩=>(Ext w wr)∧(Bk wr g 47 [.slice WA wn wc,.slice IA 0 ic,.slice NA 0 nc]))
  (fun⟨wr,i⟩=>i)
  (⟨v2,0⟩:a6×Nat) ⟨hw2,(hB.ext e5)⟩ rfl ⟨rfl,rfl,rfl,trivial⟩ ?_
 rintro⟨wr,i⟩ ⟨hw1,hB⟩
 refine cC [(0,.pointer (some ⟨g,0,none⟩)),(6,.slice (some ⟨g1,0,none⟩) 0 0),(7,.int .i64 i)] wr rfl ⟨rfl,rfl,rfl,trivial⟩ (aA (sr (mv 2 rfl (pf g 0 rfl (pf g 1 rfl (aS rfl rfl (aY (fun _=>by kernel_rfl) hB rfl) (pu (v:= .int .i64 0) rfl (aB rfl rfl rfl false (cX (a:=i) (b:=0) rfl rfl) (a0 (aI rfl (cR (cN (cP ?_)))))))))))))
 refine cQ (aD (aA (sr (mv 1 rfl (a0 (bG ?_))))))
 refine d4 (T:=a6×Nat)
  (fun⟨wr,i⟩=> [(0,.pointer (some ⟨g,0,none⟩)),(6,.slice (some ⟨g1,0,none⟩) 0 0),(10,.int .i64 i)])
  (fun⟨wr,i⟩=>wr)
  (fun⟨wr,i⟩=>(Ext w wr)∧(Bk wr g 47 [.slice WA wn wc,.slice IA 0 ic,.slice NA 0 nc]))
  (fun⟨wr,i⟩=>i)
  (⟨wr,0⟩:a6×Nat) ⟨hw1,hB⟩ rfl ⟨rfl,rfl,rfl,trivial⟩ ?_
 rintro⟨wr,i⟩ ⟨hw1,hB⟩
 refine cC [(0,.pointer (some ⟨g,0,none⟩)),(6,.slice (some ⟨g1,0,none⟩) 0 0),(10,.int .i64 i)] wr rfl ⟨rfl,rfl,rfl,trivial⟩ (aA (sr (mv 2 rfl (pf g 0 rfl (pf g 1 rfl (aS rfl rfl (aY (fun _=>by kernel_rfl) hB rfl) (pu (v:= .int .i64 0) rfl (aB rfl rfl rfl false (cX (a:=i) (b:=0) rfl rfl) (a0 (aI rfl (cR (cN (cP ?_)))))))))))))
 refine cQ (aD (sr (mv 1 rfl (a0 (aM (aL [.bool true] rfl ⟨rfl,trivial⟩ ?_))))))
 exact⟨_,rfl,rfl,hw1⟩
set_option maxHeartbeats 4000000 in
theorem YT {w:a6}(hB:Bk w g 47 [.slice WA wn wc,.slice IA 0 ic,.slice NA 0 nc]):
    aO aF 78 #[.pointer (some ⟨g,0,none⟩)] w (Gv w (Is (.bool true))):=by
 refine bK Tryz.func78 rfl (n:=133) rfl (bq rfl) (args:= [.pointer (some ⟨g,0,none⟩)]) (bE [(0,.pointer (some ⟨g,0,none⟩))] ⟨rfl,trivial⟩ (sr (mv 1 rfl (a0 (aA (sr (mv 1 rfl (a0 (bG ?_)))))))))
 refine d4 (T:=a6×Nat)
  (fun⟨wr,i⟩=> [(0,.pointer (some ⟨g,0,none⟩)),(3,.int .i64 i)])
  (fun⟨wr,i⟩=>wr)
  (fun⟨wr,i⟩=>(Ext w wr)∧(Bk wr g 47 [.slice WA wn wc,.slice IA 0 ic,.slice NA 0 nc]))
  (fun⟨wr,i⟩=>i)
  (⟨w,0⟩:a6×Nat) ⟨(Ext.refl w),hB⟩ rfl ⟨rfl,rfl,trivial⟩ ?_
 rintro⟨wr,i⟩ ⟨hw1,hB⟩
 refine cC [(0,.pointer (some ⟨g,0,none⟩)),(3,.int .i64 i)] wr rfl ⟨rfl,rfl,trivial⟩ (aA (sr (mv 2 rfl (pf g 0 rfl (pf g 2 rfl (aS rfl rfl (aY (fun _=>by kernel_rfl) hB rfl) (pu (v:= .int .i64 0) rfl (aB rfl rfl rfl false (cX (a:=i) (b:=0) rfl rfl) (a0 (aI rfl (cR (cN (cP ?_)))))))))))))
 refine cQ (aD (sr (mv 1 rfl (pf g 0 rfl (pf g 2 rfl (aS rfl rfl (aY (fun _=>by kernel_rfl) hB rfl) (pu (v:= .int .i64 0) rfl (l7 rfl (k:=0) rfl rfl rfl Tryz.underlying45 XW rfl fun g1 v2 hg3 hb4 e5=>?_))))))))
 have ge6:w.heap.size≤g1:=by rw [←hg3];exact hw1.size
 clear hg3
 have hw2:=hw1.trans e5
 refine mv 1 rfl (a0 (aA (sr (mv 1 rfl (a0 (bG ?_))))))
 refine d4 (T:=a6×Nat)
  (fun⟨wr,i⟩=> [(0,.pointer (some ⟨g,0,none⟩)),(6,.slice (some ⟨g1,0,none⟩) 0 0),(7,.int .i64 i)])
  (fun⟨wr,i⟩=>wr)
  (fun⟨wr,i⟩=>(Ext w wr)∧(Bk wr g 47 [.slice WA wn wc,.slice IA 0 ic,.slice NA 0 nc]))
  (fun⟨wr,i⟩=>i)
  (⟨v2,0⟩:a6×Nat) ⟨hw2,(hB.ext e5)⟩ rfl ⟨rfl,rfl,rfl,trivial⟩ ?_
 rintro⟨wr,i⟩ ⟨hw1,hB⟩
 refine cC [(0,.pointer (some ⟨g,0,none⟩)),(6,.slice (some ⟨g1,0,none⟩) 0 0),(7,.int .i64 i)] wr rfl ⟨rfl,rfl,rfl,trivial⟩ (aA (sr (mv 2 rfl (pf g 0 rfl (pf g 2 rfl (aS rfl rfl (aY (fun _=>by kernel_rfl) hB rfl) (pu (v:= .int .i64 0) rfl (aB rfl rfl rfl false (cX (a:=i) (b:=0) rfl rfl) (a0 (aI rfl (cR (cN (cP ?_)))))))))))))
 refine cQ (aD (aA (sr (mv 1 rfl (a0 (bG ?_))))))
 refine d4 (T:=a6×Nat)
  (fun⟨wr,i⟩=> [(0,.pointer (some ⟨g,0,none⟩)),(6,.slice (some ⟨g1,0,none⟩) 0 0),(10,.int .i64 i)])
  (fun⟨wr,i⟩=>wr)
  (fun⟨wr,i⟩=>(Ext w wr)∧(Bk wr g 47 [.slice WA wn wc,.slice IA 0 ic,.slice NA 0 nc]))
  (fun⟨wr,i⟩=>i)
  (⟨wr,0⟩:a6×Nat) ⟨hw1,hB⟩ rfl ⟨rfl,rfl,rfl,trivial⟩ ?_
 rintro⟨wr,i⟩ ⟨hw1,hB⟩
 refine cC [(0,.pointer (some ⟨g,0,none⟩)),(6,.slice (some ⟨g1,0,none⟩) 0 0),(10,.int .i64 i)] wr rfl ⟨rfl,rfl,rfl,trivial⟩ (aA (sr (mv 2 rfl (pf g 0 rfl (pf g 2 rfl (aS rfl rfl (aY (fun _=>by kernel_rfl) hB rfl) (pu (v:= .int .i64 0) rfl (aB rfl rfl rfl false (cX (a:=i) (b:=0) rfl rfl) (a0 (aI rfl (cR (cN (cP ?_)))))))))))))
 refine cQ (aD (sr (mv 1 rfl (a0 (aM (aL [.bool true] rfl ⟨rfl,trivial⟩ ?_))))))
 exact⟨_,rfl,rfl,hw1⟩
set_option maxHeartbeats 4000000 in
theorem ZP {w:a6}(hB:Bk w g 47 [.slice WA ls.length wc,.slice IA 0 ic,.slice NA 0 nc])(hW:Own w lw 22 1 WA ls.length wc (ls.map Lst.v))(hal:Al0 w lb ls)(hlb:lb≤w.heap.size)(hN:ls.length≤1048576)(hln:∀a,(ls.getD a Lst.z).n≤1099511620000):
    aO aF 20 #[.pointer (some ⟨g,0,none⟩)] w (fun e w'=>e= .returned (.bool true)∧UpU lb w w'):=by
 refine bK Tryz.func20 rfl (n:=19) rfl (bq rfl) (args:= [.pointer (some ⟨g,0,none⟩)]) (bE [(0,.pointer (some ⟨g,0,none⟩))] ⟨rfl,trivial⟩ (sr (mv 1 rfl (a0 (sr (mv 1 rfl (dD rfl rfl (vs:= [.pointer (some ⟨g,0,none⟩)]) (by kernel_rfl) (by decide) (YJ hB hW hal hlb hN hln) ?_)))))))
 rintro _ v1 ⟨rfl,uu2⟩
 refine dE ?_
 have hw1:UpU lb w v1:=(UpU.refl lb w).trans uu2
 refine mv 1 rfl (a0 (sr (mv 1 rfl (dD rfl rfl (vs:= [.pointer (some ⟨g,0,none⟩)]) (by kernel_rfl) (by decide) (Z0 (uu2.bk hB (by decide))) ?_))))
 rintro _ v3 ⟨xr5,rfl,r5,e4⟩
 refine dE ?_
 have hw2:UpU lb w v3:=hw1.then_ext e4
 obtain rfl:=r5
 refine mv 1 rfl (a0 (sr (mv 1 rfl (dD rfl rfl (vs:= [.pointer (some ⟨g,0,none⟩)]) (by kernel_rfl) (by decide) (YT ((uu2.bk hB (by decide)).ext e4)) ?_))))
 rintro _ v6 ⟨xr8,rfl,r8,e7⟩
 refine dE ?_
 have hw3:UpU lb w v6:=hw2.then_ext e7
 obtain rfl:=r8
 refine mv 1 rfl (a0 (sr (mv 3 rfl (pu (v:= .bool true) rfl (mv 2 rfl (pu (v:= .bool true) rfl (mv 1 rfl (a0 (aM (aL [.bool true] rfl ⟨rfl,trivial⟩ ?_))))))))))
 exact⟨rfl,hw3⟩
theorem a0m (h:q<l.length):l.drop q=l.getD q 0::l.drop (q+1):=by rw [m4 h,bC,cJ h];rfl
theorem QL (h:i<bs.length):bs.take (i+1)=bs.take i++ [bs.getD i 0]:=by
 rw [List.take_add_one,bC,cJ h];rfl
theorem a1n (hx:x≤18446744073709551615)(hy:y≤18446744073709551615):bits BinOp.xor IntKind.u64 (x:Int) (y:Int)=((x^^^y:Nat):Int):=by
 have e:IntKind.u64.wrap ((nL 64 (x:Int)^^^nL 64 (y:Int)).toNat:Int)=((x^^^y:Nat):Int):=by
  rw [BitVec.toNat_xor,nV hx,nV hy,nN,Nat.mod_eq_of_lt (Nat.xor_lt_two_pow (n:=64) (by omega) (by omega))]
 exact e
theorem EQ (hx:x≤18446744073709551615)(hy:y≤18446744073709551615):x^^^y≤18446744073709551615:=by
 have:=Nat.xor_lt_two_pow (n:=64) (x:=x) (y:=y) (by omega) (by omega)
 omega
theorem PX (hx:x≤18446744073709551615)(hy:y≤18446744073709551615)(P:Program)(t:aT)(w:a6):(binOp .xor t (.int .u64 (x:Int)) (.int .u64 (y:Int))).run P w= .ok (.int .u64 ((x^^^y:Nat):Int)) w:=by
 have e2:(binOp .xor t (.int .u64 (x:Int)) (.int .u64 (y:Int))).run P w= .ok (.int .u64 (bits BinOp.xor IntKind.u64 (x:Int) (y:Int))) w:=rfl
 rw [e2,a1n hx hy]
def tH (i:Nat):Nat:=6510516211317473280+i
def jB (xs:List Nat):List Nat:=xs++(j3 80).map fun k=>tH (xs.length+k)
theorem BX (xs:List Nat):(jB xs).length=xs.length+80:=by unfold jB;rw [cL,List.length_map,List.length_range]
theorem HH (h:i<xs.length):(jB xs).getD i 0=xs.getD i 0:=by
 unfold jB;rw [bC,List.getElem?_append_left h,←bC]
theorem HJ (h:xs.length≤i)(h2:i<xs.length+80):(jB xs).getD i 0=tH i:=by
 unfold jB;rw [bC,List.getElem?_append_right h,kK,List.getElem?_range (by omega)]
 show tH _=_
 congr 1;omega
theorem HC (hl:l.length=xs.length+80)(hi:i<xs.length+80)(h:l.take i=(jB xs).take i):(l.set i ((jB xs).getD i 0)).take (i+1)=(jB xs).take (i+1):=by
 rw [List.take_add_one,List.take_add_one,List.take_set_of_le (b8 _),h,List.getElem?_set_self (by omega),cJ (by rw [BX];exact hi),bC,cJ (by rw [BX];exact hi)]
 rfl
def gI (c i:Nat)(xs:List Nat):List Nat:=(xs.take i).map (· ^^^c)++xs.drop i
theorem wU (c i:Nat)(xs:List Nat):(gI c i xs).length=xs.length:=by
 unfold gI;rw [cL,List.length_map,←cL,List.take_append_drop]
theorem OL (c:Nat)(xs:List Nat):gI c 0 xs=xs:=by unfold gI;simp
theorem ON (h:i<xs.length):(gI c i xs).getD i 0=xs.getD i 0:=by
 unfold gI
 rw [bC,List.getElem?_append_right (by rw [List.length_map,bJ];omega),List.length_map,bJ,fT (by omega),Nat.sub_self,List.getElem?_drop,Nat.add_zero,←bC]
theorem OM (h:i<xs.length):(gI c i xs).set i (xs.getD i 0^^^c)=gI c (i+1) xs:=by
 unfold gI
 have e1:xs.drop i=xs.getD i 0::xs.drop (i+1):=a0m h
 rw [List.set_append_right _ _ (by rw [List.length_map,bJ];omega),List.length_map,bJ,fT (by omega),Nat.sub_self,e1,List.set_cons_zero,QL h,List.map_append,List.append_assoc]
 rfl
theorem ER (h:Wf xs)(hc:c≤18446744073709551615):Wf (gI c i xs):=by
 intro x hx
 unfold gI at hx
 rcases List.mem_append.1 hx with hx | hx
 ·obtain⟨y,hy,rfl⟩:=oJ.1 hx
  have h1:=h y (List.mem_of_mem_take hy)
  rw [cF] at h1⊢
  have:=EQ (x:=y) (y:=c) (by omega) hc
  omega
 ·exact h x (List.mem_of_mem_drop hx)
section
variable {P:Program}{Q:Exit→Act→a6→Prop}{n:Nat}{l:Fr}{w:a6}{ops:Array Oper}{rest:List Oper}{d:Nat}{ty:aT}{pos:String}{af:Array Edge}
theorem P5 {x y:Operand}{e:aT}{dLen dCap sLen sCap:Nat}(hx:bZ l x=some (.slice dp dLen dCap))(hy:bZ l y=some (.slice sp sLen sCap))(hu:P.underlying T=some (.slice e))(hsz:(P.info? e).map (·.size)=some 1)(hg:Bk w g t vs)(hsrc:Rv w 1 sp sLen sCap us)(hpos:0<dLen→dp=some ⟨g,0,none⟩)(hfit:0+dLen≤vs.length)(h1:∀v∈us,v.oneCell'=true)(hn:d<n)(k:∀w',Bk w' g t (splice vs 0 (us.take dLen))→Upd g w w'→wl P ops Q n rest ((d,.int .i64 ((min sLen dLen:Nat):Int))::l) w'):
  wl P ops Q n (⟨some d,.call {callee:= .builtin .copy,args:= #[x,y],argTypes:= #[T,T]},ty,pos,af,none⟩::rest) l w:=fun _ ha=>
 wW rfl x y T T rfl (ha.ev hx) (ha.ev hy) hu hsz hg hsrc hpos hfit h1 fun w' h2 h3=>k w' h2 h3 _ (ha.put hn _)
end
theorem SY (h:ys.length=xs.length):splice ((ys++(j3 80).map fun k=>tH (xs.length+k)).map aW) 0 ((xs.map aW).take xs.length)=(jB xs).map aW:=by
 unfold splice jB
 rw [List.take_zero,List.nil_append,f9,List.take_of_length_le (by rw [List.length_map];exact b8 _),List.length_map,List.map_append,List.drop_append_of_le_length (by rw [List.length_map];omega),List.drop_of_length_le (by rw [List.length_map];omega),List.nil_append,List.map_append]
def gJ (n:Nat):List Nat:=(j3 80).map fun k=>tH (n+k)
theorem CN (h:n≤1099511627776):Wf (gJ n):=fun x hx=>by
 obtain⟨k,hk,rfl⟩:=oJ.1 hx
 have:=List.mem_range.1 hk
 unfold tH;rw [cF];omega
theorem yN (n:Nat):(gJ n).length=80:=by unfold gJ;rw [List.length_map,List.length_range]
theorem xZ {w:a6}(h:Bk w g 65 ((ys++gJ n).map aW))(hl:ys.length=n)(hw:Wf ys)(hn:n≤1099511627776:=by omega):Rd w (some ⟨g,0,none⟩) n (n+80) ys:=by
 have h1:=h.rd (tU hw (CN hn)) (o:=0) (n:=n) (cap:=n+80) (by omega) (by rw [cL,yN];omega) (by rw [eY];omega)
 rwa [gU,List.take_left' hl] at h1
theorem HD {w:a6}(h:Bk w g 65 ((ys++gJ n).map aW))(hl:ys.length=n)(hw:Wf ys)(hn:n≤1099511627776):Rd w (some ⟨g,0,none⟩) (n+80) (n+80) (ys++gJ n):=by
 have h1:=h.rd (tU hw (CN hn)) (o:=0) (n:=n+80) (cap:=n+80) (by omega) (by rw [cL,yN];omega) (by rw [eY];omega)
 rwa [gU,List.take_of_length_le (by rw [cL,yN];omega)] at h1
theorem OK (h:i<xs.length):(gI c i xs++gJ xs.length).set i ((gI c i xs++gJ xs.length).getD i 0^^^c)=gI c (i+1) xs++gJ xs.length:=by
 have h1:i<(gI c i xs).length:=by rw [wU];exact h
 have e:(gI c i xs++gJ xs.length).getD i 0=xs.getD i 0:=by
  rw [bC,List.getElem?_append_left h1,←bC,ON h]
 rw [e,List.set_append_left _ _ h1,OM h]
theorem a1p (h:ys.length=xs.length):splice ((ys++gJ xs.length).map aW) 0 ((xs.map aW).take xs.length)=(xs++gJ xs.length).map aW:=SY h
theorem Own.of_bk {w:a6}(h:Bk w g T vs)(hl:vs.length≤9223372036854775807):Own w 0 T 1 (some ⟨g,0,none⟩) vs.length vs.length vs:=
 Own.mk_ (bW _) h (b8 _) (by rw [eY];exact hl) (cI _).symm (by rw [cI,List.take_length])
theorem Al1.updT {w w':a6}(h:Al1 w lb ls i j)(hb:Bk w g T us)(hT:65≠T)(u:Upd g w w'):Al1 w' lb ls i j:=⟨h.dis,fun a ha=>by
 obtain⟨xs,h1,h2⟩:=h.own a ha
 exact⟨xs,h1.updT hb hT u,h2⟩⟩
theorem Al0.ext {w w':a6}(h:Al0 w lb ls)(e:Ext w w'):Al0 w' lb ls:=Al1.ext h e
theorem Al0.updT {w w':a6}(h:Al0 w lb ls)(hb:Bk w g T us)(hT:65≠T)(u:Upd g w w'):Al0 w' lb ls:=Al1.updT h hb hT u
theorem wV (xs:List Nat)(c i:Nat):(gI c i xs++gJ xs.length).length=xs.length+80:=by rw [cL,wU,yN]
def RM (b:Nat)(xs:List Nat)(v:aH)(w:a6):Prop:=∃g,v= .slice (some ⟨g,0,none⟩) (xs.length+80) (xs.length+80)∧b≤g∧Bk w g 65 ((xs++gJ xs.length).map aW)
theorem VU:∀v∈xs.map aW,v.oneCell'=true:=fun v hv=>by
 obtain⟨x,_,rfl⟩:=oJ.1 hv
 rfl
set_option maxHeartbeats 4000000 in
theorem LH {w:a6}(hx:Rd w A xs.length ac xs)(hal:xs.length≤1099511627000):
    aO aF 59 #[.slice A xs.length ac] w (Gv w (RM w.heap.size xs)):=by
 refine bK Tryz.func59 rfl (n:=33) rfl (bq rfl) (args:= [.slice A xs.length ac]) (bE [(0,.slice A xs.length ac)] ⟨rfl,trivial⟩ (sr (mv 1 rfl (a0 (sr (mv 1 rfl (pu (v:= .int .i64 ((xs.length:Nat):Int)) rfl (aE rfl rfl rfl ((xs.length+80:Nat):Int) (bF (a:=xs.length) (b:=80) rfl rfl) (l7 rfl (k:=xs.length+80) rfl rfl rfl bU jE rfl fun g1 v2 hg3 hb4 e5=>?_)))))))))
 rw [kR] at hb4
 have ge6:w.heap.size≤g1:=by rw [←hg3];exact (Ext.refl w).size
 have ne8:0<ac→∀a,A=some a→a.block≠g1:=fun hc a ha=>by have:=(hx).rv.blk a ha hc;omega
 clear hg3
 have hw1:=(Ext.refl w).trans e5
 refine mv 1 rfl (a0 (aA (sr (mv 1 rfl (a0 (bG ?_))))))
 refine d4 (T:=a6×Nat×List Nat)
  (fun⟨wr,i,l⟩=> [(0,.slice A xs.length ac),(3,.slice (some ⟨g1,0,none⟩) (xs.length+80) (xs.length+80)),(4,.int .i64 i)])
  (fun⟨wr,i,l⟩=>wr)
  (fun⟨wr,i,l⟩=>(Ext w wr)∧(Bk wr g1 65 (l.map aW))∧(l.length=xs.length+80)∧(i≤xs.length+80)∧(l.take i=(jB xs).take i)∧(Rd wr A xs.length ac xs))
  (fun⟨wr,i,l⟩=>xs.length+80-i)
  (⟨v2,0,_⟩:a6×Nat×List Nat) ⟨hw1,hb4,(List.length_replicate (n:=xs.length+80) (a:=0)),(bW _),(by rw [List.take_zero,List.take_zero]),(hx.ext e5)⟩ rfl ⟨rfl,rfl,rfl,trivial⟩ ?_
 rintro⟨wr,i,l⟩ ⟨hw1,hb,hl,hi,hv,rl0⟩
 refine cC [(0,.slice A xs.length ac),(3,.slice (some ⟨g1,0,none⟩) (xs.length+80) (xs.length+80)),(4,.int .i64 i)] wr rfl ⟨rfl,rfl,rfl,trivial⟩ (aA (aA ?_))
 by_cases hi80:i<xs.length+80
 · 
  refine a7 (mv 2 rfl (pu (v:= .int .i64 (((xs.length+80):Nat):Int)) rfl (aB rfl rfl rfl true (dB (a:=i) (b:=xs.length+80) rfl rfl) (a0 (aP rfl (aN (aD (aA (bG (aA ?_))))))))))
  by_cases hilt:i<xs.length
  · 
   refine a7 (mv 2 rfl (pu (v:= .int .i64 ((xs.length:Nat):Int)) rfl (aB rfl rfl rfl true (dB (a:=i) (b:=xs.length) rfl rfl) (a0 (aP rfl ?_)))))
   have hx64:xs.getD i 0≤18446744073709551615:=by have:=oD hx.wf i;rw [cF] at this;omega
   refine a7 (mv 4 rfl ?_)
   obtain⟨p9,hp9,hc9,hv9⟩:=(rl0).at (i:=i) (by omega)
   refine bT rfl rfl rfl bU bN i rfl p9 hp9 (aS rfl rfl (cZ d7 hc9) (bT rfl rfl rfl bU bN i rfl ⟨g1,i,none⟩ (dP _ _) ?_))
   have hb11:=hb
   refine eB rfl rfl rfl bN rfl hb11 (fK (by rw [hl];omega)) rfl ((l.set i (xs.getD i 0)).map aW) (eG _ _ _) fun v10 hb12 u13 hs14=>?_
   have hw2:=u13.ext hw1 ge6
   refine aU (cA (aD (a7 (mv 1 rfl (aE rfl rfl rfl ((i+1:Nat):Int) (bF (a:=i) (b:=1) rfl rfl) (mv 1 rfl (aU (cH (⟨v10,i+1,l.set i (xs.getD i 0)⟩:a6×Nat×List Nat) ⟨hw2,hb12,(by rw [List.length_set];exact hl),(by omega),(by have h:=HC hl hi80 hv;rw [HH hilt] at h;exact h),(Rd.updL rl0 u13 ne8)⟩ (show xs.length+80-(i+1)<xs.length+80-i by omega) rfl ⟨rfl,rfl,rfl,trivial⟩))))))))
  · 
   refine a7 (mv 2 rfl (pu (v:= .int .i64 ((xs.length:Nat):Int)) rfl (aB rfl rfl rfl false (cX (a:=i) (b:=xs.length) rfl rfl) (a0 (aI rfl (a7 (mv 3 rfl (bD rfl rfl (v:= .int .u64 (IntKind.u64.wrap ((i:Nat):Int))) (v':= .int .u64 i) (eD (by first | omega | exact hle64)) (aE rfl rfl rfl ((6510516211317473280+i:Nat):Int) (eW (a:=6510516211317473280) (b:=i) rfl rfl) (bT rfl rfl rfl bU bN i rfl ⟨g1,i,none⟩ (dP _ _) ?_))))))))))
   have hb16:=hb
   refine eB rfl rfl rfl bN rfl hb16 (fK (by rw [hl];omega)) rfl ((l.set i (6510516211317473280+i)).map aW) (eG _ _ _) fun v15 hb17 u18 hs19=>?_
   have hw2:=u18.ext hw1 ge6
   refine aU (cA (aD (a7 (mv 1 rfl (aE rfl rfl rfl ((i+1:Nat):Int) (bF (a:=i) (b:=1) rfl rfl) (mv 1 rfl (aU (cH (⟨v15,i+1,l.set i (6510516211317473280+i)⟩:a6×Nat×List Nat) ⟨hw2,hb17,(by rw [List.length_set];exact hl),(by omega),(by have h:=HC hl hi80 hv;rw [HJ (by omega) hi80] at h;exact h),(Rd.updL rl0 u18 ne8)⟩ (show xs.length+80-(i+1)<xs.length+80-i by omega) rfl ⟨rfl,rfl,rfl,trivial⟩))))))))
 · 
  have hie:i=xs.length+80:=by omega
  have hlr:l=jB xs:=by rw [hie,List.take_of_length_le (by omega),List.take_of_length_le (by rw [BX];exact b8 _)] at hv;exact hv
  refine a7 (mv 2 rfl (pu (v:= .int .i64 (((xs.length+80):Nat):Int)) rfl (aB rfl rfl rfl false (cX (a:=i) (b:=xs.length+80) rfl rfl) (a0 (aI rfl (cR (cN (cP (cQ (aD (sr (mv 2 rfl (aU ?_)))))))))))))
  refine aD (aM (aL [.slice (some ⟨g1,0,none⟩) (xs.length+80) (xs.length+80)] rfl ⟨rfl,trivial⟩ (⟨_,rfl,⟨g1,rfl,ge6,?_⟩,hw1⟩)))
  have h:=hb
  rw [hlr] at h
  exact h
set_option maxHeartbeats 4000000 in
theorem LJ {w:a6}{lc:Nat}(hr:Rd w L (xs.length+80) lc (jB xs))(hx:Rd w A xs.length ac xs)(hal:xs.length≤1099511627000):
    aO aF 15 #[.slice L (xs.length+80) lc,.slice A xs.length ac] w (Gv w (Is (.bool true))):=by
 refine bK Tryz.func15 rfl (n:=47) rfl (bq rfl) (args:= [.slice L (xs.length+80) lc,.slice A xs.length ac]) (bE [(0,.slice L (xs.length+80) lc),(1,.slice A xs.length ac)] ⟨rfl,rfl,trivial⟩ (sr (mv 1 rfl (a0 (aA (sr (mv 1 rfl (pu (v:= .int .i64 (((xs.length+80):Nat):Int)) rfl (mv 1 rfl (pu (v:= .int .i64 ((xs.length:Nat):Int)) rfl (aE rfl rfl rfl ((xs.length+80:Nat):Int) (bF (a:=xs.length) (b:=80) rfl rfl) (aB rfl rfl rfl false (lU (a:=xs.length+80) (b:=xs.length+80) rfl rfl) (aU ?_)))))))))))))
 refine aD (aI rfl (aN (aD (aA (sr (mv 1 rfl (a0 (bG ?_))))))))
 refine d4 (T:=a6×Nat)
  (fun⟨wr,i⟩=> [(0,.slice L (xs.length+80) lc),(1,.slice A xs.length ac),(5,.int .i64 i)])
  (fun⟨wr,i⟩=>wr)
  (fun⟨wr,i⟩=>(Ext w wr)∧(i≤xs.length+80)∧(Rd wr L (xs.length+80) lc (jB xs))∧(Rd wr A xs.length ac xs))
  (fun⟨wr,i⟩=>xs.length+80-i)
  (⟨w,0⟩:a6×Nat) ⟨(Ext.refl w),(bW _),hr,hx⟩ rfl ⟨rfl,rfl,rfl,trivial⟩ ?_
 rintro⟨wr,i⟩ ⟨hw1,hi,rl0,rl1⟩
 refine cC [(0,.slice L (xs.length+80) lc),(1,.slice A xs.length ac),(5,.int .i64 i)] wr rfl ⟨rfl,rfl,rfl,trivial⟩ (aA (aA ?_))
 by_cases hi80:i<xs.length+80
 · 
  refine a7 (mv 2 rfl (pu (v:= .int .i64 (((xs.length+80):Nat):Int)) rfl (aB rfl rfl rfl true (dB (a:=i) (b:=xs.length+80) rfl rfl) (a0 (aP rfl (aN (aD (aA (bG (aA (aA ?_)))))))))))
  by_cases hilt:i<xs.length
  · 
   have hro:=HH hilt
   obtain⟨p1,hp1,hc1,hv1⟩:=(rl0).at (i:=i) (by omega)
   obtain⟨p2,hp2,hc2,hv2⟩:=(rl1).at (i:=i) (by omega)
   refine gR eZ 15 [] [Is (.int .i64 i),Is (.slice A xs.length ac),Is (.int .i64 ((xs.length:Nat):Int)),Is (.bool true),Is (.bool true),Is (.slice L (xs.length+80) lc),Is (.int .i64 i),Is (.pointer (some p1)),Is (.int .u64 (((jB xs).getD i 0:Nat):Int)),Is (.slice A xs.length ac),Is (.int .i64 i),Is (.pointer (some p2)),Is (.int .u64 ((xs.getD i 0:Nat):Int)),Is (.bool false),Is (.bool false)] [[],[],[1],[0,2],[3],[4],[4],[4,5,6],[4,7],[4],[4],[4,9,10],[4,11],[4,8,12],[4,13]] [[],[],[1],[0,1,2],[0,1,2,3],[0,1,2,3,4],[0,1,2,3,4],[0,1,2,3,4,5,6],[0,1,2,3,4,5,6,7],[0,1,2,3,4],[0,1,2,3,4],[0,1,2,3,4,9,10],[0,1,2,3,4,9,10,11],[0,1,2,3,4,5,6,7,8,9,10,11,12],[0,1,2,3,4,5,6,7,8,9,10,11,12,13]] rfl
    (aR rfl rfl (aK rfl rfl ?_) (aR rfl rfl (aK rfl rfl ?_) (aR rfl rfl (aK rfl rfl ?_) (aR rfl rfl (aK rfl rfl ?_) (aR rfl rfl (aK rfl rfl ?_) (aR rfl rfl (aK rfl rfl ?_) (aR rfl rfl (aK rfl rfl ?_) (aR rfl rfl (aK rfl rfl ?_) (aR rfl rfl (aK rfl rfl ?_) (aR rfl rfl (aK rfl rfl ?_) (aR rfl rfl (aK rfl rfl ?_) (aR rfl rfl (aK rfl rfl ?_) (aR rfl rfl (aK rfl rfl ?_) (aR rfl rfl (aK rfl rfl ?_) (aR rfl rfl (aK rfl rfl ?_) gP))))))))))))))) ?_
   · 
    exact fun _ _=>aJ (mv 1 rfl (aQ rfl (Ext.refl _) rfl))
   · 
    exact fun _ _=>aJ (mv 1 rfl (aQ rfl (Ext.refl _) rfl))
   · 
    exact fun _ _=>dk rfl rfl (aJ (pu (v:= .int .i64 ((xs.length:Nat):Int)) rfl (aQ rfl (Ext.refl _) rfl)))
   · 
    exact fun _ _=>dk rfl rfl (dk rfl rfl (aJ (aB rfl rfl rfl true (dB (a:=i) (b:=xs.length) rfl rfl) (aQ rfl (Ext.refl _) rfl))))
   · 
    exact fun _ _=>dk rfl rfl (aJ (mv 1 rfl (aQ rfl (Ext.refl _) rfl)))
   · 
    exact fun _ _=>dk rfl rfl (aJ (mv 1 rfl (aQ rfl (Ext.refl _) rfl)))
   · 
    exact fun _ _=>dk rfl rfl (aJ (mv 1 rfl (aQ rfl (Ext.refl _) rfl)))
   · 
    exact fun _ _=>dk rfl rfl (dk rfl rfl (dk rfl rfl (aJ (bT rfl rfl rfl bU bN i rfl p1 hp1 (aQ rfl (Ext.refl _) rfl)))))
   · 
    exact fun _ e65=>dk rfl rfl (dk rfl rfl (aJ (aS rfl rfl (cZ d7 (e65.cell hc1)) (aQ rfl (Ext.refl _) rfl))))
   · 
    exact fun _ _=>dk rfl rfl (aJ (mv 1 rfl (aQ rfl (Ext.refl _) rfl)))
   · 
    exact fun _ _=>dk rfl rfl (aJ (mv 1 rfl (aQ rfl (Ext.refl _) rfl)))
   · 
    exact fun _ _=>dk rfl rfl (dk rfl rfl (dk rfl rfl (aJ (bT rfl rfl rfl bU bN i rfl p2 hp2 (aQ rfl (Ext.refl _) rfl)))))
   · 
    exact fun _ e108=>dk rfl rfl (dk rfl rfl (aJ (aS rfl rfl (cZ d7 (e108.cell hc2)) (aQ rfl (Ext.refl _) rfl))))
   · 
    exact fun _ _=>dk rfl rfl (dk rfl rfl (dk rfl rfl (aJ (aB rfl rfl rfl false (lU (a:=(jB xs).getD i 0) (b:=xs.getD i 0) rfl rfl) (aQ rfl (Ext.refl _) rfl)))))
   · 
    exact fun _ _=>dk rfl rfl (dk rfl rfl (aJ (pu (v:= .bool false) rfl (aQ rfl (Ext.refl _) rfl))))
   · 
    intro v148 e149
    have hw2:=hw1.trans e149
    refine dk rfl rfl (dk rfl rfl (dk rfl rfl (dk rfl rfl (dk rfl rfl (dk rfl rfl (dk rfl rfl (dk rfl rfl (dk rfl rfl (dk rfl rfl (dk rfl rfl (dk rfl rfl (dk rfl rfl (dk rfl rfl ?_)))))))))))))
    refine dk rfl rfl (aJ (aU (gQ (aD (aI rfl (aN (aD (sr (mv 2 rfl (pu (v:= .int .i64 ((xs.length:Nat):Int)) rfl (aB rfl rfl rfl false (iF (a:=i) (b:=xs.length) rfl rfl) (mv 9 rfl (pu (v:= .bool false) rfl ?_)))))))))))))
    refine a0 (aI rfl (aN (cA (aD (a7 (mv 1 rfl (aE rfl rfl rfl ((i+1:Nat):Int) (bF (a:=i) (b:=1) rfl rfl) (mv 1 rfl (aU (cH (⟨v148,i+1⟩:a6×Nat) ⟨hw2,(by omega),(rl0.ext e149),(rl1.ext e149)⟩ (show xs.length+80-(i+1)<xs.length+80-i by omega) rfl ⟨rfl,rfl,rfl,trivial⟩))))))))))
  · 
   have hro:(jB xs).getD i 0=6510516211317473280+i:=HJ (by omega) hi80
   refine gR eZ 15 [] [Is (.int .i64 i),Is (.slice A xs.length ac),Is (.int .i64 ((xs.length:Nat):Int)),Is (.bool false),Is (.bool false),Is (undef),Is (undef),Is (undef),Is (undef),Is (undef),Is (undef),Is (undef),Is (undef),Is (undef),Is (.bool false)] [[],[],[1],[0,2],[3],[4],[4],[4,5,6],[4,7],[4],[4],[4,9,10],[4,11],[4,8,12],[4,13]] [[],[],[1],[0,1,2],[0,1,2,3],[0,1,2,3,4],[0,1,2,3,4],[0,1,2,3,4,5,6],[0,1,2,3,4,5,6,7],[0,1,2,3,4],[0,1,2,3,4],[0,1,2,3,4,9,10],[0,1,2,3,4,9,10,11],[0,1,2,3,4,5,6,7,8,9,10,11,12],[0,1,2,3,4,5,6,7,8,9,10,11,12,13]] rfl
    (aR rfl rfl (aK rfl rfl ?_) (aR rfl rfl (aK rfl rfl ?_) (aR rfl rfl (aK rfl rfl ?_) (aR rfl rfl (aK rfl rfl ?_) (aR rfl rfl (aK rfl rfl ?_) (aR rfl rfl (aK rfl rfl ?_) (aR rfl rfl (aK rfl rfl ?_) (aR rfl rfl (aK rfl rfl ?_) (aR rfl rfl (aK rfl rfl ?_) (aR rfl rfl (aK rfl rfl ?_) (aR rfl rfl (aK rfl rfl ?_) (aR rfl rfl (aK rfl rfl ?_) (aR rfl rfl (aK rfl rfl ?_) (aR rfl rfl (aK rfl rfl ?_) (aR rfl rfl (aK rfl rfl ?_) gP))))))))))))))) ?_
   · 
    exact fun _ _=>aJ (mv 1 rfl (aQ rfl (Ext.refl _) rfl))
   · 
    exact fun _ _=>aJ (mv 1 rfl (aQ rfl (Ext.refl _) rfl))
   · 
    exact fun _ _=>dk rfl rfl (aJ (pu (v:= .int .i64 ((xs.length:Nat):Int)) rfl (aQ rfl (Ext.refl _) rfl)))
   · 
    exact fun _ _=>dk rfl rfl (dk rfl rfl (aJ (aB rfl rfl rfl false (cX (a:=i) (b:=xs.length) rfl rfl) (aQ rfl (Ext.refl _) rfl))))
   · 
    exact fun _ _=>dk rfl rfl (aJ (mv 1 rfl (aQ rfl (Ext.refl _) rfl)))
   · 
    exact fun _ _=>dk rfl rfl (aJ (mv 1 rfl (aQ rfl (Ext.refl _) rfl)))
   · 
    exact fun _ _=>dk rfl rfl (aJ (mv 1 rfl (aQ rfl (Ext.refl _) rfl)))
   · 
    exact fun _ _=>dk rfl rfl (dk rfl rfl (dk rfl rfl (aJ (mv 1 rfl (aQ rfl (Ext.refl _) rfl)))))
   · 
    exact fun _ _=>dk rfl rfl (dk rfl rfl (aJ (mv 1 rfl (aQ rfl (Ext.refl _) rfl))))
   · 
    exact fun _ _=>dk rfl rfl (aJ (mv 1 rfl (aQ rfl (Ext.refl _) rfl)))
   · 
    exact fun _ _=>dk rfl rfl (aJ (mv 1 rfl (aQ rfl (Ext.refl _) rfl)))
   · 
    exact fun _ _=>dk rfl rfl (dk rfl rfl (dk rfl rfl (aJ (mv 1 rfl (aQ rfl (Ext.refl _) rfl)))))
   · 
    exact fun _ _=>dk rfl rfl (dk rfl rfl (aJ (mv 1 rfl (aQ rfl (Ext.refl _) rfl))))
   · 
    exact fun _ _=>dk rfl rfl (dk rfl rfl (dk rfl rfl (aJ (mv 1 rfl (aQ rfl (Ext.refl _) rfl)))))
   · 
    exact fun _ _=>dk rfl rfl (dk rfl rfl (aJ (pu (v:= .bool false) rfl (aQ rfl (Ext.refl _) rfl))))
   · 
    intro v370 e371
    have hw2:=hw1.trans e371
    refine dk rfl rfl (dk rfl rfl (dk rfl rfl (dk rfl rfl (dk rfl rfl (dk rfl rfl (dk rfl rfl (dk rfl rfl (dk rfl rfl (dk rfl rfl (dk rfl rfl (dk rfl rfl (dk rfl rfl (dk rfl rfl ?_)))))))))))))
    refine dk rfl rfl (aJ (aU (gQ (aD (aI rfl (aN (aD (sr (mv 2 rfl (pu (v:= .int .i64 ((xs.length:Nat):Int)) rfl (aB rfl rfl rfl true (eI (a:=i) (b:=xs.length) rfl rfl) (mv 3 rfl ?_))))))))))))
    obtain⟨p447,hp447,hc447,hv447⟩:=((rl0.ext e371)).at (i:=i) (by omega)
    refine bT rfl rfl rfl bU bN i rfl p447 hp447 (aS rfl rfl (cZ d7 hc447) (mv 1 rfl (bD rfl rfl (v:= .int .u64 (IntKind.u64.wrap ((i:Nat):Int))) (v':= .int .u64 i) (eD (by first | omega | exact hle64)) (aE rfl rfl rfl ((6510516211317473280+i:Nat):Int) (eW (a:=6510516211317473280) (b:=i) rfl rfl) (aB rfl rfl rfl false (lU (a:=(jB xs).getD i 0) (b:=6510516211317473280+i) rfl rfl) (pu (v:= .bool false) rfl (a0 (aI rfl (aN (cA (aD (a7 (mv 1 rfl ?_)))))))))))))
    refine aE rfl rfl rfl ((i+1:Nat):Int) (bF (a:=i) (b:=1) rfl rfl) (mv 1 rfl (aU (cH (⟨v370,i+1⟩:a6×Nat) ⟨hw2,(by omega),(rl0.ext e371),(rl1.ext e371)⟩ (show xs.length+80-(i+1)<xs.length+80-i by omega) rfl ⟨rfl,rfl,rfl,trivial⟩)))
 · 
  refine a7 (mv 2 rfl (pu (v:= .int .i64 (((xs.length+80):Nat):Int)) rfl (aB rfl rfl rfl false (cX (a:=i) (b:=xs.length+80) rfl rfl) (a0 (aI rfl (cR (cN (cP (cQ (aD (sr (mv 1 rfl (aU ?_)))))))))))))
  refine aD (aM (aL [.bool true] rfl ⟨rfl,trivial⟩ ?_))
  exact⟨_,rfl,rfl,hw1⟩
set_option maxHeartbeats 8000000 in
set_option maxRecDepth 20000 in
theorem Z2 {w:a6}{pm pc:Nat}(hx:Rd w Aa xs.length ca xs)(hal:xs.length≤1048576)(hy:Rd w Ab ys.length cb ys)(hbl:ys.length≤1048576)(hf64:f<18446744073709551616)(hl:Rd w C m c fs)(hm:m≤1048576)(hbs:∀b,b∈bs→b<256)(hlen:bs.length≤1048576)(hS:Signs w):
    aO aF 37 #[.agg #[.int .i64 k,.bool sa,.slice Aa xs.length ca,.bool sb,.slice Ab ys.length cb,.int .u64 f,.slice C m c,.string (a8 bs),.int .i64 nn],.agg #[.int .i64 pk,.bool psa,.slice PA pan pac,.bool psb,.slice PB pbn pbc,.int .u64 pfl,.slice PC pm pc,.string (a8 pbs),.int .i64 pn]] w (Gv w (Is (.bool true))):=by
 refine bK Tryz.func37 rfl (n:=90) rfl (bq rfl) (args:= [.agg #[.int .i64 k,.bool sa,.slice Aa xs.length ca,.bool sb,.slice Ab ys.length cb,.int .u64 f,.slice C m c,.string (a8 bs),.int .i64 nn],.agg #[.int .i64 pk,.bool psa,.slice PA pan pac,.bool psb,.slice PB pbn pbc,.int .u64 pfl,.slice PC pm pc,.string (a8 pbs),.int .i64 pn]]) (bE [(0,.agg #[.int .i64 k,.bool sa,.slice Aa xs.length ca,.bool sb,.slice Ab ys.length cb,.int .u64 f,.slice C m c,.string (a8 bs),.int .i64 nn]),(1,.agg #[.int .i64 pk,.bool psa,.slice PA pan pac,.bool psb,.slice PB pbn pbc,.int .u64 pfl,.slice PC pm pc,.string (a8 pbs),.int .i64 pn])] ⟨rfl,rfl,trivial⟩ (sr (bx [.int .i64 k,.bool sa,.slice Aa xs.length ca,.bool sb,.slice Ab ys.length cb,.int .u64 f,.slice C m c,.string (a8 bs),.int .i64 nn] (Ext.refl w) rfl rfl rfl fun g1 v2 hb4 ge5 e3 hw1=>(pI [.int .i64 pk,.bool psa,.slice PA pan pac,.bool psb,.slice PB pbn pbc,.int .u64 pfl,.slice PC pm pc,.string (a8 pbs),.int .i64 pn] hw1 hb4.lt rfl rfl rfl fun g6 v7 hb9 ge10 q11 e8 hw2=>(mv 1 rfl (a0 (sr (pf g1 1 rfl (pf g1 2 rfl (aS rfl rfl (aY (fun _=>by kernel_rfl) (hb4.ext e8) rfl) (cl (vs:= [.slice Aa xs.length ca]) hw2 (LH (hx.ext hw2) (by omega)) rfl (by kernel_rfl) fun xr14 v12 r14 e13 hw3=>?_)))))))))))
 obtain⟨g15,rfl,ge15,hb15⟩:=r14
 have q16:g1<g15:=dF (hb4.ext e8).lt ge15
 have q17:g6<g15:=dF hb9.lt ge15
 have ge15:w.heap.size≤g15:=aG hw2.size ge15
 refine mv 1 rfl (a0 (sr (pf g1 3 rfl (pf g1 4 rfl (aS rfl rfl (aY (fun _=>by kernel_rfl) (hb4.ext (e8.trans e13)) rfl) (cl (vs:= [.slice Ab ys.length cb]) hw3 (LH (hy.ext hw3) (by omega)) rfl (by kernel_rfl) fun xr20 v18 r20 e19 hw4=>?_))))))
 obtain⟨g21,rfl,ge21,hb21⟩:=r20
 have q22:g1<g21:=dF (hb4.ext (e8.trans e13)).lt ge21
 have q23:g6<g21:=dF (hb9.ext e13).lt ge21
 have q24:g15<g21:=dF (hb15).lt ge21
 have ge21:w.heap.size≤g21:=aG hw3.size ge21
 refine mv 1 rfl (a0 (sr (lo kE (hb4.ext (e8.trans (e13.trans e19))) [.int .i64 k,.bool sa,.slice Aa xs.length ca,.bool sb,.slice Ab ys.length cb,.int .u64 f,.slice C m c,.string (a8 bs),.int .i64 nn] rfl rfl rfl (m5 rfl (z:= .agg #[I0,F0,S0,F0,S0,.int .u64 0,S0,.string ⟨#[]⟩,I0]) (vs:= [I0,F0,S0,F0,S0,.int .u64 0,S0,.string ⟨#[]⟩,I0]) (fun _=>by kernel_rfl) rfl fun g25 v26 nb=>?_))))
 have q27:g15<g25:=by rw [←nb.at_];exact ((hb15.ext e19)).lt
 have q28:g21<g25:=by rw [←nb.at_];exact (hb21).lt
 have hb30:=nb.bk
 have ge31:w.heap.size≤g25:=by rw [←nb.at_];exact hw4.size
 have q32:g6<g25:=by rw [←nb.at_];exact (hb9.ext (e13.trans e19)).lt
 have e29:=nb.ext
 clear nb
 have hw5:=hw4.trans e29
 refine so kE hb30 [.int .i64 k,.bool sa,.slice Aa xs.length ca,.bool sb,.slice Ab ys.length cb,.int .u64 f,.slice C m c,.string (a8 bs),.int .i64 nn] hw5 ge31 rfl rfl rfl rfl fun v33 hb35 u36 hw6=>(a0 (sr (mv 1 rfl (pf g1 1 rfl (pf g1 2 rfl (aS rfl rfl (aY (fun _=>by kernel_rfl) ((hb4.ext (e8.trans (e13.trans (e19.trans e29)))).updN u36 (by omega)) rfl) (pu (v:= .int .i64 ((xs.length:Nat):Int)) rfl (jT rfl rfl bU bN (lo:=0) (hi:=xs.length) rfl rfl (by omega) (by omega) (v:= .slice (some ⟨g15,0,none⟩) xs.length (xs.length+80)) (oT _ _ _) (by decide) (pf g25 1 rfl (pf g25 2 rfl (eB rfl rfl rfl (fun _=>by kernel_rfl) rfl hb35 (bq rfl) rfl [.int .i64 k,.bool sa,.slice (some ⟨g15,0,none⟩) xs.length (xs.length+80),.bool sb,.slice Ab ys.length cb,.int .u64 f,.slice C m c,.string (a8 bs),.int .i64 nn] rfl fun v38 hb40 u41 hs42=>?_)))))))))))
 have hw7:=u41.ext hw6 ge31
 refine a0 (sr (mv 1 rfl (pf g1 3 rfl (pf g1 4 rfl (aS rfl rfl (aY (fun _=>by kernel_rfl) (((hb4.ext (e8.trans (e13.trans (e19.trans e29)))).updN u36 (by omega)).updN u41 (by omega)) rfl) (pu (v:= .int .i64 ((ys.length:Nat):Int)) rfl (jT rfl rfl bU bN (lo:=0) (hi:=ys.length) rfl rfl (by omega) (by omega) (v:= .slice (some ⟨g21,0,none⟩) ys.length (ys.length+80)) (oT _ _ _) (by decide) (pf g25 3 rfl (pf g25 4 rfl (eB rfl rfl rfl (fun _=>by kernel_rfl) rfl hb40 (bq rfl) rfl [.int .i64 k,.bool sa,.slice (some ⟨g15,0,none⟩) xs.length (xs.length+80),.bool sb,.slice (some ⟨g21,0,none⟩) ys.length (ys.length+80),.int .u64 f,.slice C m c,.string (a8 bs),.int .i64 nn] rfl fun v43 hb45 u46 hs47=>?_))))))))))
 have hw8:=u46.ext hw7 ge31
 refine a0 (aA (sr (mv 1 rfl (a0 (bG ?_)))))
 refine d4 (T:=a6×Nat×Int)
  (fun⟨wr,kk,kc⟩=> [(2,.pointer (some ⟨g1,0,none⟩)),(5,.slice (some ⟨g15,0,none⟩) (xs.length+80) (xs.length+80)),(6,.slice (some ⟨g21,0,none⟩) (ys.length+80) (ys.length+80)),(7,.pointer (some ⟨g25,0,none⟩)),(8,.int .i64 kk)])
  (fun⟨wr,kk,kc⟩=>wr)
  (fun⟨wr,kk,kc⟩=>(Ext w wr)∧(Bk wr g1 71 [.int .i64 k,.bool sa,.slice Aa xs.length ca,.bool sb,.slice Ab ys.length cb,.int .u64 f,.slice C m c,.string (a8 bs),.int .i64 nn])∧(Bk wr g25 71 [.int .i64 kc,.bool sa,.slice (some ⟨g15,0,none⟩) xs.length (xs.length+80),.bool sb,.slice (some ⟨g21,0,none⟩) ys.length (ys.length+80),.int .u64 f,.slice C m c,.string (a8 bs),.int .i64 nn])∧(Bk wr g15 65 ((xs++gJ xs.length).map aW))∧(Bk wr g21 65 ((ys++gJ ys.length).map aW))∧(kk≤7))
  (fun⟨wr,kk,kc⟩=>7-kk)
  (⟨v43,1,k⟩:a6×Nat×Int) ⟨hw8,((((hb4.ext (e8.trans (e13.trans (e19.trans e29)))).updN u36 (by omega)).updN u41 (by omega)).updN u46 (by omega)),hb45,((((hb15.ext (e19.trans e29)).updN u36 (by omega)).updN u41 (by omega)).updN u46 (by omega)),((((hb21.ext e29).updN u36 (by omega)).updN u41 (by omega)).updN u46 (by omega)),(by decide)⟩ rfl ⟨rfl,rfl,rfl,rfl,rfl,trivial⟩ ?_
 rintro⟨wr,kk,kc⟩ ⟨hw1,hB2,hB7,hbA,hbB,hkk⟩
 refine cC [(2,.pointer (some ⟨g1,0,none⟩)),(5,.slice (some ⟨g15,0,none⟩) (xs.length+80) (xs.length+80)),(6,.slice (some ⟨g21,0,none⟩) (ys.length+80) (ys.length+80)),(7,.pointer (some ⟨g25,0,none⟩)),(8,.int .i64 kk)] wr rfl ⟨rfl,rfl,rfl,rfl,rfl,trivial⟩ (aA (aA ?_))
 by_cases hk6:kk≤6
 · 
  refine a7 (mv 1 rfl (aB rfl rfl rfl true (lV (a:=kk) (b:=6) rfl rfl) (a0 (aP rfl (aN (aD (aA (bG (sr (mv 1 rfl (pf g25 0 rfl ?_)))))))))))
  have hb49:=hB7
  refine eB rfl rfl rfl (fun _=>by kernel_rfl) rfl hb49 (bq rfl) rfl [.int .i64 kk,.bool sa,.slice (some ⟨g15,0,none⟩) xs.length (xs.length+80),.bool sb,.slice (some ⟨g21,0,none⟩) ys.length (ys.length+80),.int .u64 f,.slice C m c,.string (a8 bs),.int .i64 nn] rfl fun v48 hb50 u51 hs52=>?_
  have hw2:=u51.ext hw1 ge31
  refine a0 (aA (sr (lo kE hb50 [.int .i64 kk,.bool sa,.slice (some ⟨g15,0,none⟩) xs.length (xs.length+80),.bool sb,.slice (some ⟨g21,0,none⟩) ys.length (ys.length+80),.int .u64 f,.slice C m c,.string (a8 bs),.int .i64 nn] rfl rfl rfl (cl (vs:= [.agg #[.int .i64 kk,.bool sa,.slice (some ⟨g15,0,none⟩) xs.length (xs.length+80),.bool sb,.slice (some ⟨g21,0,none⟩) ys.length (ys.length+80),.int .u64 f,.slice C m c,.string (a8 bs),.int .i64 nn]]) hw2 (L5 ⟨_,xZ (hbA.updN u51 (by omega)) rfl hx.wf,rfl⟩ (by omega) ⟨_,xZ (hbB.updN u51 (by omega)) rfl hy.wf,rfl⟩ (by omega) hf64 (hl.ext hw2) hm hbs hlen (hS.ext hw2)) rfl (by kernel_rfl) fun xr55 v53 r55 e54 hw3=>?_))))
  obtain rfl:=r55
  refine pu (v:= .bool false) rfl (mv 2 rfl (pf g1 1 rfl (pf g1 2 rfl (aS rfl rfl (aY (fun _=>by kernel_rfl) ((hB2.updN u51 (by omega)).ext e54) rfl) (cl (vs:= [.slice (some ⟨g15,0,none⟩) (xs.length+80) (xs.length+80),.slice Aa xs.length ca]) hw3 (LJ (HD ((hbA.updN u51 (by omega)).ext e54) rfl hx.wf (by omega)) (hx.ext hw3) (by omega)) rfl (by kernel_rfl) fun xr58 v56 r58 e57 hw4=>?_)))))
  obtain rfl:=r58
  refine pu (v:= .bool false) rfl (pu (v:= .bool false) rfl (mv 2 rfl (pf g1 3 rfl (pf g1 4 rfl (aS rfl rfl (aY (fun _=>by kernel_rfl) ((hB2.updN u51 (by omega)).ext (e54.trans e57)) rfl) (cl (vs:= [.slice (some ⟨g21,0,none⟩) (ys.length+80) (ys.length+80),.slice Ab ys.length cb]) hw4 (LJ (HD ((hbB.updN u51 (by omega)).ext (e54.trans e57)) rfl hy.wf (by omega)) (hy.ext hw4) (by omega)) rfl (by kernel_rfl) fun xr61 v59 r61 e60 hw5=>?_))))))
  obtain rfl:=r61
  refine pu (v:= .bool false) rfl (pu (v:= .bool false) rfl (a0 (aI rfl (aN (aD (aA (sr (mv 1 rfl (a0 (bG ?_))))))))))
  refine d4 (T:=a6×Nat)
   (fun⟨wr,i⟩=> [(2,.pointer (some ⟨g1,0,none⟩)),(5,.slice (some ⟨g15,0,none⟩) (xs.length+80) (xs.length+80)),(6,.slice (some ⟨g21,0,none⟩) (ys.length+80) (ys.length+80)),(7,.pointer (some ⟨g25,0,none⟩)),(8,.int .i64 kk),(9,.int .i64 i)])
   (fun⟨wr,i⟩=>wr)
   (fun⟨wr,i⟩=>(Ext w wr)∧(Bk wr g1 71 [.int .i64 k,.bool sa,.slice Aa xs.length ca,.bool sb,.slice Ab ys.length cb,.int .u64 f,.slice C m c,.string (a8 bs),.int .i64 nn])∧(Bk wr g25 71 [.int .i64 kk,.bool sa,.slice (some ⟨g15,0,none⟩) xs.length (xs.length+80),.bool sb,.slice (some ⟨g21,0,none⟩) ys.length (ys.length+80),.int .u64 f,.slice C m c,.string (a8 bs),.int .i64 nn])∧(Bk wr g15 65 ((gI 1085102592571150095 i xs++gJ xs.length).map aW))∧(Bk wr g21 65 ((ys++gJ ys.length).map aW))∧(i≤xs.length))
   (fun⟨wr,i⟩=>xs.length-i)
   (⟨v59,0⟩:a6×Nat) ⟨hw5,((hB2.updN u51 (by omega)).ext (e54.trans (e57.trans e60))),(hb50.ext (e54.trans (e57.trans e60))),(by rw [OL];exact ((hbA.updN u51 (by omega)).ext (e54.trans (e57.trans e60)))),((hbB.updN u51 (by omega)).ext (e54.trans (e57.trans e60))),(bW _)⟩ rfl ⟨rfl,rfl,rfl,rfl,rfl,rfl,trivial⟩ ?_
  rintro⟨wr,i⟩ ⟨hw1,hB2,hB7,hbA,hbB,hi⟩
  refine cC [(2,.pointer (some ⟨g1,0,none⟩)),(5,.slice (some ⟨g15,0,none⟩) (xs.length+80) (xs.length+80)),(6,.slice (some ⟨g21,0,none⟩) (ys.length+80) (ys.length+80)),(7,.pointer (some ⟨g25,0,none⟩)),(8,.int .i64 kk),(9,.int .i64 i)] wr rfl ⟨rfl,rfl,rfl,rfl,rfl,rfl,trivial⟩ (aA (aA ?_))
  by_cases hilt:i<xs.length
  · 
   refine a7 (mv 1 rfl (pf g25 1 rfl (pf g25 2 rfl (aS rfl rfl (aY (fun _=>by kernel_rfl) hB7 rfl) (pu (v:= .int .i64 ((xs.length:Nat):Int)) rfl (aB rfl rfl rfl true (dB (a:=i) (b:=xs.length) rfl rfl) (a0 (aP rfl (aN (aD (aA (bG ?_))))))))))))
   have hy64:(gI 1085102592571150095 i xs++gJ xs.length).getD i 0≤18446744073709551615:=by have:=oD (tU (ER (c:=1085102592571150095) (i:=i) hx.wf (by decide)) (CN (n:=xs.length) (by omega))) i;rw [cF] at this;omega
   have hyz:=EQ hy64 (show 1085102592571150095≤18446744073709551615 by decide)
   have hxl:=wV xs 1085102592571150095 i
   refine bE [(2,.pointer (some ⟨g1,0,none⟩)),(5,.slice (some ⟨g15,0,none⟩) (xs.length+80) (xs.length+80)),(6,.slice (some ⟨g21,0,none⟩) (ys.length+80) (ys.length+80)),(7,.pointer (some ⟨g25,0,none⟩)),(8,.int .i64 kk),(9,.int .i64 i),(60,.int .i64 i),(61,.pointer (some ⟨g25,1,none⟩)),(62,.pointer (some ⟨g25,2,none⟩)),(63,.slice (some ⟨g15,0,none⟩) xs.length (xs.length+80)),(64,.int .i64 ((xs.length:Nat):Int)),(65,.bool true)] ⟨rfl,rfl,rfl,rfl,rfl,rfl,rfl,rfl,rfl,rfl,rfl,rfl,trivial⟩ ?_
   obtain⟨v62,hv,e63⟩:∃v,v=wr.drew∧Ext wr v:=⟨_,rfl,(Ext.refl _).drew⟩
   have hw2:=hw1.trans e63
   have hb65:=(hbA.ext e63)
   obtain⟨v64,hr69,hb66,u67,hs68⟩:=uV (P:=aF) (v:= .int .u64 ((((gI 1085102592571150095 i xs++gJ xs.length).getD i 0)^^^1085102592571150095:Nat):Int)) (off:=i) bN rfl hb65 (fK (by rw [(wV xs 1085102592571150095 i)];omega)) rfl (((gI 1085102592571150095 i xs++gJ xs.length).set i (((gI 1085102592571150095 i xs++gJ xs.length).getD i 0)^^^1085102592571150095)).map aW) (eG _ _ _)
   have hw3:=u67.ext hw2 ge15
   refine nA eZ (w:=v62) [.pointer (some ⟨g25,1,none⟩),.pointer (some ⟨g25,2,none⟩),.slice (some ⟨g15,0,none⟩) xs.length (xs.length+80),.int .i64 i,.pointer (some ⟨g25,1,none⟩),.pointer (some ⟨g25,2,none⟩),.slice (some ⟨g15,0,none⟩) xs.length (xs.length+80),.int .i64 i,.pointer (some (⟨g15,i,none⟩)),.int .u64 (((gI 1085102592571150095 i xs++gJ xs.length).getD i 0:Nat):Int),.int .u64 ((((gI 1085102592571150095 i xs++gJ xs.length).getD i 0)^^^1085102592571150095:Nat):Int),.pointer (some (⟨g15,i,none⟩)),undef] [v62,v64] [12] [[],[0],[1],[],[],[4],[5],[],[6,7],[8],[9],[2,3],[10,11]] [[],[0],[0,1],[],[],[4],[4,5],[],[4,5,6,7],[4,5,6,7,8],[4,5,6,7,8,9],[0,1,2,3,4,5,6,7,8,9,10],[0,1,2,3,4,5,6,7,8,9,10,11]] [(0,0),(1,0),(2,0),(3,0),(4,0),(5,0),(6,0),(7,0),(8,0),(9,0),(10,0),(11,0),(12,0)] rfl hv ?_ ?_
   · 
    refine bI _ rfl rfl rfl rfl rfl (qC rfl) (bI _ rfl rfl rfl rfl rfl (qC rfl) (bI _ rfl rfl rfl rfl rfl (gW rfl (aY (fun _=>by kernel_rfl) (hB7.ext e63) rfl)) (bI _ rfl rfl rfl rfl rfl (dO rfl) (bI _ rfl rfl rfl rfl rfl (qC rfl) (bI _ rfl rfl rfl rfl rfl (qC rfl) (bI _ rfl rfl rfl rfl rfl (gW rfl (aY (fun _=>by kernel_rfl) (hB7.ext e63) rfl)) (bI _ rfl rfl rfl rfl rfl (dO rfl) (bI _ rfl rfl rfl rfl rfl (gX rfl rfl bU bN i rfl ⟨g15,i,none⟩ (dP _ _)) (bI _ rfl rfl rfl rfl rfl (gW rfl (iW d7 (hbA.ext e63) (by rw [(wV xs 1085102592571150095 i)];omega))) (bI _ rfl rfl rfl rfl rfl (C5 rfl rfl (r:= .int .u64 ((((gI 1085102592571150095 i xs++gJ xs.length).getD i 0)^^^1085102592571150095:Nat):Int)) rfl (fun w=>PX (x:=(gI 1085102592571150095 i xs++gJ xs.length).getD i 0) (y:=1085102592571150095) hy64 (by decide) _ _ w)) (bI _ rfl rfl rfl rfl rfl (gX rfl rfl bU bN i rfl ⟨g15,i,none⟩ (dP _ _)) (D9 _ rfl rfl rfl rfl rfl (y9 rfl rfl hr69) ?_))))))))))))
    exact mZ
   clear hv
   refine mD [(2,.pointer (some ⟨g1,0,none⟩)),(5,.slice (some ⟨g15,0,none⟩) (xs.length+80) (xs.length+80)),(6,.slice (some ⟨g21,0,none⟩) (ys.length+80) (ys.length+80)),(7,.pointer (some ⟨g25,0,none⟩)),(8,.int .i64 kk),(9,.int .i64 i),(60,.int .i64 i),(61,.pointer (some ⟨g25,1,none⟩)),(62,.pointer (some ⟨g25,2,none⟩)),(63,.slice (some ⟨g15,0,none⟩) xs.length (xs.length+80)),(64,.int .i64 ((xs.length:Nat):Int)),(65,.bool true),(68,.pointer (some ⟨g25,1,none⟩)),(69,.pointer (some ⟨g25,2,none⟩)),(70,.slice (some ⟨g15,0,none⟩) xs.length (xs.length+80)),(71,.int .i64 i),(72,.pointer (some ⟨g25,1,none⟩)),(73,.pointer (some ⟨g25,2,none⟩)),(74,.slice (some ⟨g15,0,none⟩) xs.length (xs.length+80)),(75,.int .i64 i),(76,.pointer (some (⟨g15,i,none⟩))),(77,.int .u64 (((gI 1085102592571150095 i xs++gJ xs.length).getD i 0:Nat):Int)),(78,.int .u64 ((((gI 1085102592571150095 i xs++gJ xs.length).getD i 0)^^^1085102592571150095:Nat):Int)),(79,.pointer (some (⟨g15,i,none⟩)))] ⟨rfl,rfl,rfl,rfl,rfl,rfl,rfl,rfl,rfl,rfl,rfl,rfl,rfl,rfl,rfl,rfl,rfl,rfl,rfl,rfl,rfl,rfl,rfl,rfl,trivial⟩ (cA (aD (a7 (mv 1 rfl (aE rfl rfl rfl ((i+1:Nat):Int) (bF (a:=i) (b:=1) rfl rfl) (mv 1 rfl (aU (cH (⟨v64,i+1⟩:a6×Nat) ⟨hw3,((hB2.ext e63).updN u67 (by omega)),((hB7.ext e63).updN u67 (by omega)),(by have h:=hb66;rwa [OK hilt] at h),((hbB.ext e63).updN u67 (by omega)),(by omega)⟩ (show xs.length-(i+1)<xs.length-i by omega) rfl ⟨rfl,rfl,rfl,rfl,rfl,rfl,trivial⟩))))))))
  · 
   refine a7 (mv 1 rfl (pf g25 1 rfl (pf g25 2 rfl (aS rfl rfl (aY (fun _=>by kernel_rfl) hB7 rfl) (pu (v:= .int .i64 ((xs.length:Nat):Int)) rfl (aB rfl rfl rfl false (cX (a:=i) (b:=xs.length) rfl rfl) (a0 (aI rfl (cR (cN (cP (cQ (aD ?_)))))))))))))
   refine aA (sr (lo kE hB7 [.int .i64 kk,.bool sa,.slice (some ⟨g15,0,none⟩) xs.length (xs.length+80),.bool sb,.slice (some ⟨g21,0,none⟩) ys.length (ys.length+80),.int .u64 f,.slice C m c,.string (a8 bs),.int .i64 nn] rfl rfl rfl (cl (vs:= [.agg #[.int .i64 kk,.bool sa,.slice (some ⟨g15,0,none⟩) xs.length (xs.length+80),.bool sb,.slice (some ⟨g21,0,none⟩) ys.length (ys.length+80),.int .u64 f,.slice C m c,.string (a8 bs),.int .i64 nn]]) hw1 (L5 ⟨_,xZ hbA (wU _ _ _) (ER hx.wf (by decide)),rfl⟩ (by omega) ⟨_,xZ hbB rfl hy.wf,rfl⟩ (by omega) hf64 (hl.ext hw1) hm hbs hlen (hS.ext hw1)) rfl (by kernel_rfl) fun xr72 v70 r72 e71 hw2=>?_)))
   obtain rfl:=r72
   refine pu (v:= .bool false) rfl (a0 (aI rfl (aN (aD (a7 (pf g25 1 rfl (pf g25 2 rfl (aS rfl rfl (aY (fun _=>by kernel_rfl) (hB7.ext e71) rfl) (pf g1 1 rfl (pf g1 2 rfl (aS rfl rfl (aY (fun _=>by kernel_rfl) (hB2.ext e71) rfl) ?_)))))))))))
   have hb74:=(hbA.ext e71)
   refine P5 rfl rfl Tryz.underlying22 (by kernel_rfl) hb74 ((hx.ext hw2)).rv (fun _=>rfl) (by rw [List.length_map,(wV xs 1085102592571150095 i)];omega) VU (by decide) fun v73 hb75 u76=>?_
   rw [a1p (wU _ _ _)] at hb75
   have hw3:=u76.ext hw2 ge15
   refine aU (cA (aD (a7 (mv 1 rfl (aE rfl rfl rfl ((kk+1:Nat):Int) (bF (a:=kk) (b:=1) rfl rfl) (mv 1 rfl (aU (cH (⟨v73,kk+1,_⟩:a6×Nat×Int) ⟨hw3,((hB2.ext e71).updN u76 (by omega)),((hB7.ext e71).updN u76 (by omega)),hb75,((hbB.ext e71).updN u76 (by omega)),(by omega)⟩ (show 7-(kk+1)<7-kk by omega) rfl ⟨rfl,rfl,rfl,rfl,rfl,trivial⟩))))))))
 · 
  refine a7 (mv 1 rfl (aB rfl rfl rfl false (lW (a:=kk) (b:=6) rfl rfl) (a0 (aI rfl (cR (cN (cP (cQ (aD (sr (mv 1 rfl (a0 (aM ?_)))))))))))))
  refine aL [.bool true] rfl ⟨rfl,trivial⟩ ?_
  exact⟨_,rfl,rfl,hw1⟩
end
section
open Go.RowKit
open Ieee in
theorem RC (n:Nat):1 <<< n=2^n:=by rw [Nat.shiftLeft_eq,Nat.one_mul]
open Ieee in
theorem a0M {d k:Nat}(h:n=k*2^d)(hd:d≤n.log2+2):Toward.even.cut s n d=k:=by
 have hp:0<2^d:=dW d
 unfold Toward.cut
 show n/(1 <<< min d (n.log2+2))+Bool.toNat (decide (1 <<< min d (n.log2+2)<2*(n%(1 <<< min d (n.log2+2))))||(1 <<< min d (n.log2+2)==2*(n%(1 <<< min d (n.log2+2)))&&n/(1 <<< min d (n.log2+2))%2==1))=k
 rw [RC,fT hd]
 have h1:n/2^d=k:=by rw [h];exact Nat.mul_div_cancel _ hp
 have h2:n%2^d=0:=by rw [h];exact Nat.mul_mod_left _ _
 rw [h1,h2]
 generalize 2^d=g at hp
 have e1:decide (g<2*0)=false:=decide_eq_false (by omega)
 have e2:(g==2*0)=false:=by rw [beq_eq_false_iff_ne];omega
 rw [e1,e2]
 rfl
open Ieee in
theorem JM (hr:r<9218868437227405312)(h:(N=0∧r=0)∨(N≠0∧∃a kept:Nat,(max (0+(N.log2:Int)-52) (-1074)-(-1074)).toNat=a∧Toward.even.cut s (N <<< (0-max (0+(N.log2:Int)-52) (-1074)).toNat) (max (0+(N.log2:Int)-52) (-1074)-0).toNat=kept∧r=a*4503599627370496+kept)):Ieee.double.nearest s N 0=if s then 9223372036854775808+r else r:=by
 unfold Format.nearest
 rcases h with⟨h0,h1⟩ | ⟨h0,a,kept,ha,hk,hr2⟩
 ·rw [if_pos h0,h1];unfold Format.word;rw [tR]
 ·rw [if_neg h0]
  unfold Format.word
  rw [tR,vZ,vY,M4]
  show (if s=true then 9223372036854775808+min ((max (0+(N.log2:Int)-((52:Nat):Int)) (-1074)-(-1074)).toNat*4503599627370496+Toward.even.cut s (N <<< (0-max (0+(N.log2:Int)-((52:Nat):Int)) (-1074)).toNat) (max (0+(N.log2:Int)-((52:Nat):Int)) (-1074)-0).toNat) 9218868437227405312 else min ((max (0+(N.log2:Int)-((52:Nat):Int)) (-1074)-(-1074)).toNat*4503599627370496+Toward.even.cut s (N <<< (0-max (0+(N.log2:Int)-((52:Nat):Int)) (-1074)).toNat) (max (0+(N.log2:Int)-((52:Nat):Int)) (-1074)-0).toNat) 9218868437227405312)=_
  rw [show ((52:Nat):Int)=52 from rfl,ha,hk,←hr2,fT (by omega)]
open Ieee in
theorem W7 (hlt:N<9007199254740992):∃r,double.nearest false N 0=r∧rv r=N*2^bM∧r<9218868437227405312:=by
 by_cases h0:N=0
 ·exact⟨0,JM (s:=false) (by decide) (Or.inl ⟨h0,rfl⟩),by rw [h0,Nat.zero_mul];rfl,by decide⟩
 ·have he74:=i6
  have hl:N.log2≤52:=by
   have h2:N.log2<53:=(Nat.log2_lt h0).2 hlt
   omega
  obtain⟨c,hc⟩:∃c,N.log2+c=52:=⟨52-N.log2,by omega⟩
  have hk1:4503599627370496≤N*2^c:=by
   have:=Nat.mul_le_mul_right (2^c) (Nat.log2_self_le h0)
   rw [←bX,hc] at this;exact this
  have hk2:N*2^c<9007199254740992:=by
   have:=Nat.mul_lt_mul_of_pos_right (@Nat.lt_log2_self N) (dW c)
   rw [←bX,show N.log2+1+c=53 by omega] at this;exact this
  obtain⟨a,ha⟩:∃a,a+c=bM:=⟨bM-c,by omega⟩
  have hrun:rv (a*4503599627370496+N*2^c)=N*2^bM:=by
   rw [lB (bR hk1),Nat.mul_assoc,←bX,Nat.add_comm c a,ha]
  have hri:a*4503599627370496+N*2^c<9218868437227405312:=by omega
  refine⟨_,JM (s:=false) hri (bR ⟨h0,a,N*2^c,?_,?_,rfl⟩),hrun,hri⟩
  ·omega
  ·have e3:(0-max (0+(N.log2:Int)-52) (-1074)).toNat=c:=by omega
   have e4:(max (0+(N.log2:Int)-52) (-1074)-0).toNat=0:=by omega
   rw [e3,e4,Nat.shiftLeft_eq]
   exact a0M (by rw [Nat.pow_zero,cI]) (bW _)
def iQ (n:Nat):Nat:=FloatKind.f64.nearest ((n:Nat):Int)
theorem DQ (h:n<9007199254740992):iQ n<9218868437227405312∧rv (iQ n)=n*2^bM:=by
 obtain⟨r,h1,h2,h3⟩:=W7 h
 have e:iQ n=r:=by
  show Ieee.double.nearest (decide (((n:Nat):Int)<0)) (Int.natAbs ((n:Nat):Int)) 0=r
  rw [decide_eq_false (by omega),Int.natAbs_natCast,h1]
 rw [e];exact⟨h3,h2⟩
theorem M9 (h:n<9007199254740992):iQ n<18446744073709551616:=by have:=(DQ h).1;omega
theorem MB (h:n<9007199254740992):fin (iQ n):=by have:=(DQ h).1;unfold fin mg;omega
theorem J8 (hx:x<18446744073709551616)(hf:fin x):FloatKind.f64.format.order x x=some .eq:=by
 have h:Ieee.double.order x x=some (compare (fv x) (fv x)):=yG hx hx hf hf
 have e:compare (fv x) (fv x)= .eq:=by simp
 rw [e] at h;exact h
theorem VN (h:y=x)(hx:x<18446744073709551616)(hf:fin x):(FloatKind.f64.format.order y x==some .eq)=true:=by rw [h,J8 hx hf];rfl
theorem VK (h:y=x)(hx:x<18446744073709551616)(hf:fin x):(FloatKind.f64.format.order y x != some .eq)=false:=by rw [h,J8 hx hf];rfl
def gM (j:Nat):List Nat:=(j3 j).map fun i=>iQ (i+1)
theorem a0e (j:Nat):(gM j).length=j:=by unfold gM;simp
theorem a0c (fs:List Nat)(j:Nat):(fs++gM j)++ [iQ (j+1)]=fs++gM (j+1):=by unfold gM;rw [List.range_succ,List.map_append,List.append_assoc];rfl
theorem a0d (h:i<fs.length):(fs++gM j).getD i 0=fs.getD i 0:=by rw [bC,List.getElem?_append_left h,←bC]
theorem a0f (h:fs.length≤i)(h2:i<fs.length+j):(fs++gM j).getD i 0=iQ (i-fs.length+1):=by
 rw [bC,List.getElem?_append_right h]
 unfold gM
 rw [kK,List.getElem?_range (by omega),Option.map_some,Option.getD_some]
def mS (i:Nat)(l:List Nat):List Nat:=bP i 4607182418800017408++l.drop i
theorem VQ (l:List Nat):mS 0 l=l:=by unfold mS;simp
theorem VS (h:i<l.length):(mS i l).set i 4607182418800017408=mS (i+1) l:=by
 unfold mS
 rw [List.set_append,List.length_replicate,if_neg (Nat.lt_irrefl _),Nat.sub_self,m4 h,List.set_cons_zero,List.replicate_succ',List.append_assoc];rfl
theorem VR (i:Nat)(l:List Nat):(mS i l).take i=bP i 4607182418800017408:=by
 unfold mS
 rw [List.take_append_of_le_length (by rw [List.length_replicate];exact b8 _),List.take_of_length_le (by rw [List.length_replicate];exact b8 _)]
theorem ZX:fv 4607182418800017408=((2^bM:Nat):Int):=by
 have h:rv 4607182418800017408=2^bM:=by
  have h1:=(show∀p,rv (p*4503599627370496+4503599627370496)=4503599627370496*2^p from fun p=>lB (bR (b8 _)) (hm:=(by decide))) 1022
  have h2:=(congrArg (HPow.hPow (2:Nat)) (show bM=52+1022 from i6)).trans ((show∀q,(2:Nat)^(52+q)=4503599627370496*2^q from fun q=>by rw [bX]) 1022)
  rw [h2];exact h1
 unfold fv
 rw [show cY 4607182418800017408=false by decide,show mg 4607182418800017408=4607182418800017408 by decide,h,k7]
theorem QN (n:Nat)(x:Int):(bP n x).sum=(n:Int)*x:=by
 induction n with
 | zero=>simp
 | succ n ih=>rw [List.replicate_succ,List.sum_cons,ih];grind
theorem QC (hn:n<9007199254740992):iI (bP n 4607182418800017408)=iQ n∧kO (bP n 4607182418800017408)=0:=by
 have ha:mF (bP n 4607182418800017408)=true:=by
  unfold mF
  rw [List.all_eq_true]
  intro x hx
  rw [(wQ.1 hx).2];decide
 have hs:iJ (bP n 4607182418800017408)=((n*2^bM:Nat):Int):=by
  unfold iJ
  rw [List.map_replicate,ZX,QN,Int.natCast_mul]
 refine⟨?_,xC ha⟩
 obtain⟨h1,h2⟩:=DQ hn
 rw [xD ha,hs]
 unfold sU dV cU
 rw [decide_eq_false (by omega),Int.natAbs_natCast,←h2]
 have h3:gY (rv (iQ n)) 1=iQ n:=by have h:=JV (D:=1) (r:=iQ n) (by decide);rwa [Nat.one_mul] at h
 rw [h3,if_neg (by simp)]
 exact fT (by omega)
end
section
open Go.RowKit
theorem Own.atF {w:a6}(h:Own w b 73 1 A n c (l.map iU))(hi:i<n):∃p,A.map (·.add (i*1))=some p∧w.cell? p=some (.float .f64 (l.getD i 0)):=by
 obtain⟨a,ha,hc⟩:=h.rv.get i (by have:=h.rv.len;omega)
 subst ha
 refine⟨_,rfl,?_⟩
 rw [cI]
 have hl:l.length=n:=by have:=h.rv.len;simpa using this
 rw [hc,bC,bC,kK,cJ (by omega)];rfl
theorem Own.rfT {w:a6}{k:Nat}(h:Own w b 73 1 A n c (l.map iU))(hk:k≤n)(hw:∀x,x∈l.take k→x<18446744073709551616):Rf w A k c (l.take k):=by
 refine⟨?_,hw⟩
 rcases h with⟨rfl,rfl,rfl,h⟩ | ⟨g,cs,rfl,hb,hk2,hn,hm,hl,hv⟩
 ·obtain rfl:k=0:=by omega
  rw [List.take_zero];exact Rv.nil w 1
 ·have h1:=Own.mk_ (n:=k) (cap:=c) (base:=b) (s:=1) hb hk2 (by omega) hm hl (vs:=(l.take k).map iU) (by rw [cI] at hv⊢;rw [List.map_take,←hv,List.take_take,fT hk])
  exact h1.rv
section
variable {Q:Exit→Act→a6→Prop}{N:Nat}{l:Fr}{w:a6}{ops:Array Oper}{rest:List Oper}{ty:aT}{pos:String}{af:Array Edge}{gd:Option (Nat×Bool)}
theorem OX (hw:dI ops l gd=some true){x y:Operand}{v:Nat}(hx:bZ l x=some (.pointer (some p)))(hy:bZ l y=some (.float .f64 v))(h:Own w b 73 1 A n c (fs.map iU))(hp:A.map (·.add (i*1))=some p)(hi:i<n)(k:∀w',Own w' b 73 1 A n c ((fs.set i v).map iU)→UpdO A w w'→wl aF ops Q N rest l w'):wl aF ops Q N (⟨none,.store 73 x y,ty,pos,af,gd⟩::rest) l w:=by
 rcases h with⟨rfl,rfl,rfl,h⟩ | ⟨g,cs,rfl,hb,hk2,hn,hm,hl,hv⟩
 ·omega
 ·rw [cI] at hp hv hl
  have e:p=⟨g,i,none⟩:=by
   have h2:=l4 hp
   rw [←h2];simp [Addr.add];omega
  subst e
  refine eB hw hx hy (fun _=>by kernel_rfl) rfl hk2 (by omega) rfl _ rfl fun w' h2 h3 _=>k w' (bR ⟨g,_,rfl,hb,h2,hn,hm,by rw [List.length_set,cI];exact hl,?_⟩) h3.updO
  rw [cI,List.take_set,hv,List.map_set]
end
theorem a1m {w:a6}(h:Bk w g t vs):∀j u,vs[j]?=some u→w.cell? ((⟨g,0,none⟩:aC).add j)=some u:=by
 intro j u hj
 rw [kX,f9]
 obtain⟨h1,h2⟩:=List.getElem?_eq_some_iff.1 hj
 rw [h.cell h1,bC,hj];rfl
theorem X9 (l:List Nat)(b:Nat):l.map iU++ [Value.float .f64 b]=(l++ [b]).map iU:=by simp
theorem X2 (h:x∈bP n 4607182418800017408):x<18446744073709551616:=by rw [(wQ.1 h).2];decide
set_option maxHeartbeats 8000000 in
set_option maxRecDepth 20000 in
theorem YW {w:a6}{pm pc:Nat}(hx:Rd w Aa xs.length ca xs)(hal:xs.length≤1048576)(hy:Rd w Ab ys.length cb ys)(hbl:ys.length≤1048576)(hf64:f<18446744073709551616)(hl:Rd w C m c fs)(hm:m≤1048576)(hbs:∀b,b∈bs→b<256)(hlen:bs.length≤1048576):
    aO aF 38 #[.agg #[.int .i64 k,.bool sa,.slice Aa xs.length ca,.bool sb,.slice Ab ys.length cb,.int .u64 f,.slice C m c,.string (a8 bs),.int .i64 nn],.agg #[.int .i64 pk,.bool psa,.slice PA pan pac,.bool psb,.slice PB pbn pbc,.int .u64 pfl,.slice PC pm pc,.string (a8 pbs),.int .i64 pn]] w (Gv w (Is (.bool true))):=by
 refine bK Tryz.func38 rfl (n:=116) rfl (bq rfl) (args:= [.agg #[.int .i64 k,.bool sa,.slice Aa xs.length ca,.bool sb,.slice Ab ys.length cb,.int .u64 f,.slice C m c,.string (a8 bs),.int .i64 nn],.agg #[.int .i64 pk,.bool psa,.slice PA pan pac,.bool psb,.slice PB pbn pbc,.int .u64 pfl,.slice PC pm pc,.string (a8 pbs),.int .i64 pn]]) (bE [(0,.agg #[.int .i64 k,.bool sa,.slice Aa xs.length ca,.bool sb,.slice Ab ys.length cb,.int .u64 f,.slice C m c,.string (a8 bs),.int .i64 nn]),(1,.agg #[.int .i64 pk,.bool psa,.slice PA pan pac,.bool psb,.slice PB pbn pbc,.int .u64 pfl,.slice PC pm pc,.string (a8 pbs),.int .i64 pn])] ⟨rfl,rfl,trivial⟩ (sr (bx [.int .i64 k,.bool sa,.slice Aa xs.length ca,.bool sb,.slice Ab ys.length cb,.int .u64 f,.slice C m c,.string (a8 bs),.int .i64 nn] (Ext.refl w) rfl rfl rfl fun g1 v2 hb4 ge5 e3 hw1=>(pI [.int .i64 pk,.bool psa,.slice PA pan pac,.bool psb,.slice PB pbn pbc,.int .u64 pfl,.slice PC pm pc,.string (a8 pbs),.int .i64 pn] hw1 hb4.lt rfl rfl rfl fun g6 v7 hb9 ge10 q11 e8 hw2=>(mv 1 rfl (a0 (sr (pf g1 6 rfl (aS rfl rfl (aY (fun _=>by kernel_rfl) (hb4.ext e8) rfl) (pu (v:= .int .i64 m) rfl (mv 1 rfl (a0 (aA ?_)))))))))))))
 refine a7 (pf g1 6 rfl (aS rfl rfl (aY (fun _=>by kernel_rfl) (hb4.ext e8) rfl) (cl (vs:= [.slice C m c]) hw2 (LD hw2.size (hl.ext hw2) hm) rfl (by kernel_rfl) fun xr14 v12 r14 e13 hw3=>?_)))
 obtain⟨g15,rfl,gb15,hb15⟩:=r14
 have ho15:Own v12 w.heap.size 73 1 (some ⟨g15,0,none⟩) m m (fs.map iU):=Own.mk_ gb15 hb15 (b8 _) (by rw [eY];omega) (by rw [List.length_map,cI];exact hl.len) (List.take_of_length_le (by rw [List.length_map,cI,hl.len];exact b8 _))
 refine mv 1 rfl (a0 (aA (aA ?_)))
 have hlf:=hl.len
 refine a7 (mv 1 rfl (a0 (bG ?_)))
 refine d4 (T:=a6×Nat×Option aC×Nat)
  (fun⟨wr,j,A9,c9⟩=> [(2,.pointer (some ⟨g1,0,none⟩)),(5,.int .i64 m),(6,.slice A9 (m+j) c9),(7,.int .i64 j)])
  (fun⟨wr,j,A9,c9⟩=>wr)
  (fun⟨wr,j,A9,c9⟩=>(Ext w wr)∧(Bk wr g1 71 [.int .i64 k,.bool sa,.slice Aa xs.length ca,.bool sb,.slice Ab ys.length cb,.int .u64 f,.slice C m c,.string (a8 bs),.int .i64 nn])∧(Own wr w.heap.size 73 1 A9 (m+j) c9 ((fs++gM j).map iU))∧(j≤80))
  (fun⟨wr,j,A9,c9⟩=>80-j)
  (⟨v12,0,_,_⟩:a6×Nat×Option aC×Nat) ⟨hw3,(hb4.ext (e8.trans e13)),(show Own v12 w.heap.size 73 1 (some ⟨g15,0,none⟩) (m+0) m ((fs++gM 0).map iU) from by rw [show gM 0= [] from rfl,List.append_nil];exact ho15),(bW _)⟩ rfl ⟨rfl,rfl,rfl,rfl,trivial⟩ ?_
 rintro⟨wr,j,A9,c9⟩ ⟨hw1,hB2,ho9,hj⟩
 refine cC [(2,.pointer (some ⟨g1,0,none⟩)),(5,.int .i64 m),(6,.slice A9 (m+j) c9),(7,.int .i64 j)] wr rfl ⟨rfl,rfl,rfl,rfl,trivial⟩ (aA (aA ?_))
 by_cases hj80:j<80
 · 
  refine a7 (mv 1 rfl (aB rfl rfl rfl true (dB (a:=j) (b:=80) rfl rfl) (a0 (aP rfl (aN (aD (aA (bG (a7 (mv 2 rfl (aE rfl rfl rfl ((j+1:Nat):Int) (bF (a:=j) (b:=1) rfl rfl) (pu (v:= .float .f64 (iQ (j+1))) rfl (dQ rfl rfl (k:=1) (e:=73) [.float .f64 (iQ (j+1))] (fun _=>by kernel_rfl) fun g16 v17 nb=>?_)))))))))))))
  have hb18:=nb.bk
  have e19:=nb.ext
  clear nb
  have hw2:=hw1.trans e19
  have lt27:=(ho9.ext e19)
  refine nP rfl rfl rfl oP KQ rfl lt27 hw2.size [.float .f64 (iQ (j+1))] rfl (a1m hb18) rfl fun A21 c22 v23 ho24 uo25 _=>?_
  rw [X9] at ho24
  have hw3:=uo25.ext hw2 (fun p hp=>by have:=(lt27.block p hp).1;omega)
  refine mv 1 rfl (aU (cA (aD (a7 (mv 1 rfl (aE rfl rfl rfl ((j+1:Nat):Int) (bF (a:=j) (b:=1) rfl rfl) (mv 1 rfl (aU (cH (⟨v23,j+1,_,_⟩:a6×Nat×Option aC×Nat) ⟨hw3,((hB2.ext e19).updO uo25 (vF lt27 (hB2.ext e19) (by decide))),(by have h:=ho24;rwa [a0c] at h),(by omega)⟩ (show 80-(j+1)<80-j by omega) rfl ⟨rfl,rfl,rfl,rfl,trivial⟩)))))))))
 · 
  have hjj:j=80:=by omega
  have hft:(fs++gM j).take m=fs:=by rw [List.take_append_of_le_length (by omega),List.take_of_length_le (by omega)]
  refine a7 (mv 1 rfl (aB rfl rfl rfl false (cX (a:=j) (b:=80) rfl rfl) (a0 (aI rfl (cR (cN (cP (cQ (aD (sr (pf g1 6 rfl (aS rfl rfl (aY (fun _=>by kernel_rfl) hB2 rfl) (cl (vs:= [.slice C m c]) hw1 (IK (hl.ext hw1) (bQ hm rfl)) rfl (by kernel_rfl) fun xr30 v28 r30 e29 hw2=>?_)))))))))))))
  obtain⟨_,_,rfl,rfl,rfl⟩:=r30
  refine mv 1 rfl (pu (v:= .int .u64 ((iI fs:Nat):Int)) rfl (pu (v:= .int .i64 (kO fs)) rfl (mv 2 rfl (a0 (sr (mv 2 rfl (jT rfl rfl oP q6 (lo:=0) (hi:=m) rfl rfl (by omega) (by have:=((ho9.ext e29)).rv.le;omega) (v:= .slice A9 m c9) (oT _ _ _) (by decide) (dD rfl rfl (vs:= [.slice A9 m c9]) (by kernel_rfl) (by decide) (by have h:=D1 (((ho9.ext e29)).rfT (k:=m) (by omega) (by rw [hft];exact FC hl)) (bQ hm rfl);rw [hft] at h;exact h) ?_))))))))
  rintro _ v32 ⟨xr34,rfl,r34,e33⟩
  refine dE ?_
  have hw3:=hw2.trans e33
  obtain⟨_,_,rfl,rfl,rfl⟩:=r34
  refine mv 1 rfl (pu (v:= .float .f64 (iI fs)) rfl (pu (v:= .int .i64 (kO fs)) rfl (mv 2 rfl (a0 (aA (sr (mv 1 rfl (pu (v:= .int .u64 ((iI fs:Nat):Int)) rfl (mv 1 rfl (aB rfl rfl rfl false (lU (a:=iI fs) (b:=iI fs) rfl rfl) (mv 3 rfl (aB rfl rfl rfl false (JW rfl) (pu (v:= .bool false) rfl ?_)))))))))))))
  refine a0 (aI rfl (aN (aD (aA (sr (mv 1 rfl (a0 (bG ?_))))))))
  refine d4 (T:=a6×Nat)
   (fun⟨wr,i⟩=> [(2,.pointer (some ⟨g1,0,none⟩)),(5,.int .i64 m),(6,.slice A9 (m+j) c9),(12,.int .i64 i)])
   (fun⟨wr,i⟩=>wr)
   (fun⟨wr,i⟩=>(Ext w wr)∧(Bk wr g1 71 [.int .i64 k,.bool sa,.slice Aa xs.length ca,.bool sb,.slice Ab ys.length cb,.int .u64 f,.slice C m c,.string (a8 bs),.int .i64 nn])∧(Own wr w.heap.size 73 1 A9 (m+j) c9 ((fs++gM j).map iU))∧(i≤m+j))
   (fun⟨wr,i⟩=>m+j-i)
   (⟨v32,0⟩:a6×Nat) ⟨hw3,(hB2.ext (e29.trans e33)),(ho9.ext (e29.trans e33)),(bW _)⟩ rfl ⟨rfl,rfl,rfl,rfl,trivial⟩ ?_
  rintro⟨wr,i⟩ ⟨hw1,hB2,ho9,hi⟩
  refine cC [(2,.pointer (some ⟨g1,0,none⟩)),(5,.int .i64 m),(6,.slice A9 (m+j) c9),(12,.int .i64 i)] wr rfl ⟨rfl,rfl,rfl,rfl,trivial⟩ (aA (aA ?_))
  by_cases hi80:i<m+j
  · 
   refine a7 (mv 2 rfl (pu (v:= .int .i64 ((m+j:Nat):Int)) rfl (aB rfl rfl rfl true (dB (a:=i) (b:=m+j) rfl rfl) (a0 (aP rfl (aN (aD (aA (bG (aA ?_))))))))))
   by_cases hilt:i<m
   · 
    have hlo:(fs++gM j).getD i 0=fs.getD i 0:=a0d (by omega)
    obtain⟨p36,hp36,hc36⟩:=(ho9).atF (i:=i) (by omega)
    obtain⟨p37,hp37,hc37,hv37⟩:=((hl.ext hw1)).at (i:=i) (by omega)
    refine gR eZ 35 [] [Is (.int .i64 i),Is (.int .i64 m),Is (.bool true),Is (.bool true),Is (.slice A9 (m+j) c9),Is (.int .i64 i),Is (.pointer (some p36)),Is (.float .f64 ((fs++gM j).getD i 0)),Is (.int .u64 (((fs++gM j).getD i 0:Nat):Int)),Is (.pointer (some ⟨g1,6,none⟩)),Is (.slice C m c),Is (.int .i64 i),Is (.pointer (some p37)),Is (.int .u64 ((fs.getD i 0:Nat):Int)),Is (.float .f64 (fs.getD i 0)),Is (.int .u64 ((fs.getD i 0:Nat):Int)),Is (.bool false),Is (.bool false),Is (.bool false),Is (.int .i64 i),Is (.int .i64 m),Is (.bool false),Is (.bool false),Is (undef),Is (undef),Is (undef),Is (undef),Is (undef),Is (undef),Is (undef),Is (undef),Is (undef),Is (undef),Is (.bool false),Is (.bool false)] [[],[],[0,1],[2],[3],[3],[3,4,5],[3,6],[3,7],[3],[3,9],[3],[3,10,11],[3,12],[3,13],[3,14],[3,8,15],[3,16],[17],[18],[18],[18,19,20],[18,21],[22],[22],[22,23,24],[22,25],[22],[22],[22,27,28],[22,29],[22,30],[22,26,31],[18,22,32],[18,33]] [[],[],[0,1],[0,1,2],[0,1,2,3],[0,1,2,3],[0,1,2,3,4,5],[0,1,2,3,4,5,6],[0,1,2,3,4,5,6,7],[0,1,2,3],[0,1,2,3,9],[0,1,2,3],[0,1,2,3,9,10,11],[0,1,2,3,9,10,11,12],[0,1,2,3,4,5,6,7,8,9,10,11,12,13],[0,1,2,3,4,5,6,7,8,9,10,11,12,13,14],[0,1,2,3,4,5,6,7,8,9,10,11,12,13,14,15],[0,1,2,3,4,5,6,7,8,9,10,11,12,13,14,15,16],[0,1,2,3,4,5,6,7,8,9,10,11,12,13,14,15,16,17],[0,1,2,3,4,5,6,7,8,9,10,11,12,13,14,15,16,17,18],[0,1,2,3,4,5,6,7,8,9,10,11,12,13,14,15,16,17,18],[0,1,2,3,4,5,6,7,8,9,10,11,12,13,14,15,16,17,18,19,20],[0,1,2,3,4,5,6,7,8,9,10,11,12,13,14,15,16,17,18,19,20,21],[0,1,2,3,4,5,6,7,8,9,10,11,12,13,14,15,16,17,18,19,20,21,22],[0,1,2,3,4,5,6,7,8,9,10,11,12,13,14,15,16,17,18,19,20,21,22],[0,1,2,3,4,5,6,7,8,9,10,11,12,13,14,15,16,17,18,19,20,21,22,23,24],[0,1,2,3,4,5,6,7,8,9,10,11,12,13,14,15,16,17,18,19,20,21,22,23,24,25],[0,1,2,3,4,5,6,7,8,9,10,11,12,13,14,15,16,17,18,19,20,21,22],[0,1,2,3,4,5,6,7,8,9,10,11,12,13,14,15,16,17,18,19,20,21,22],[0,1,2,3,4,5,6,7,8,9,10,11,12,13,14,15,16,17,18,19,20,21,22,27,28],[0,1,2,3,4,5,6,7,8,9,10,11,12,13,14,15,16,17,18,19,20,21,22,27,28,29],[0,1,2,3,4,5,6,7,8,9,10,11,12,13,14,15,16,17,18,19,20,21,22,27,28,29,30],[0,1,2,3,4,5,6,7,8,9,10,11,12,13,14,15,16,17,18,19,20,21,22,23,24,25,26,27,28,29,30,31],[0,1,2,3,4,5,6,7,8,9,10,11,12,13,14,15,16,17,18,19,20,21,22,23,24,25,26,27,28,29,30,31,32],[0,1,2,3,4,5,6,7,8,9,10,11,12,13,14,15,16,17,18,19,20,21,22,23,24,25,26,27,28,29,30,31,32,33]] rfl
     (aR rfl rfl (aK rfl rfl ?_) (aR rfl rfl (aK rfl rfl ?_) (aR rfl rfl (aK rfl rfl ?_) (aR rfl rfl (aK rfl rfl ?_) (aR rfl rfl (aK rfl rfl ?_) (aR rfl rfl (aK rfl rfl ?_) (aR rfl rfl (aK rfl rfl ?_) (aR rfl rfl (aK rfl rfl ?_) (aR rfl rfl (aK rfl rfl ?_) (aR rfl rfl (aK rfl rfl ?_) (aR rfl rfl (aK rfl rfl ?_) (aR rfl rfl (aK rfl rfl ?_) (aR rfl rfl (aK rfl rfl ?_) (aR rfl rfl (aK rfl rfl ?_) (aR rfl rfl (aK rfl rfl ?_) (aR rfl rfl (aK rfl rfl ?_) (aR rfl rfl (aK rfl rfl ?_) (aR rfl rfl (aK rfl rfl ?_) (aR rfl rfl (aK rfl rfl ?_) (aR rfl rfl (aK rfl rfl ?_) (aR rfl rfl (aK rfl rfl ?_) (aR rfl rfl (aK rfl rfl ?_) (aR rfl rfl (aK rfl rfl ?_) (aR rfl rfl (aK rfl rfl ?_) (aR rfl rfl (aK rfl rfl ?_) (aR rfl rfl (aK rfl rfl ?_) (aR rfl rfl (aK rfl rfl ?_) (aR rfl rfl (aK rfl rfl ?_) (aR rfl rfl (aK rfl rfl ?_) (aR rfl rfl (aK rfl rfl ?_) (aR rfl rfl (aK rfl rfl ?_) (aR rfl rfl (aK rfl rfl ?_) (aR rfl rfl (aK rfl rfl ?_) (aR rfl rfl (aK rfl rfl ?_) (aR rfl rfl (aK rfl rfl ?_) gP))))))))))))))))))))))))))))))))))) ?_
    · 
     exact fun _ _=>aJ (mv 1 rfl (aQ rfl (Ext.refl _) rfl))
    · 
     exact fun _ _=>aJ (mv 1 rfl (aQ rfl (Ext.refl _) rfl))
    · 
     exact fun _ _=>dk rfl rfl (dk rfl rfl (aJ (aB rfl rfl rfl true (dB (a:=i) (b:=m) rfl rfl) (aQ rfl (Ext.refl _) rfl))))
    · 
     exact fun _ _=>dk rfl rfl (aJ (mv 1 rfl (aQ rfl (Ext.refl _) rfl)))
    · 
     exact fun _ _=>dk rfl rfl (aJ (mv 1 rfl (aQ rfl (Ext.refl _) rfl)))
    · 
     exact fun _ _=>dk rfl rfl (aJ (mv 1 rfl (aQ rfl (Ext.refl _) rfl)))
    · 
     exact fun _ _=>dk rfl rfl (dk rfl rfl (dk rfl rfl (aJ (bT rfl rfl rfl oP q6 i rfl p36 hp36 (aQ rfl (Ext.refl _) rfl)))))
    · 
     exact fun _ e93=>dk rfl rfl (dk rfl rfl (aJ (aS rfl rfl (cZ E2 (e93.cell hc36)) (aQ rfl (Ext.refl _) rfl))))
    · 
     exact fun _ _=>dk rfl rfl (dk rfl rfl (aJ (pu (v:= .int .u64 (((fs++gM j).getD i 0:Nat):Int)) rfl (aQ rfl (Ext.refl _) rfl))))
    · 
     exact fun _ _=>dk rfl rfl (aJ (pf g1 6 rfl (aQ rfl (Ext.refl _) rfl)))
    · 
     exact fun _ e124=>dk rfl rfl (dk rfl rfl (aJ (aS rfl rfl (aY (fun _=>by kernel_rfl) (hB2.ext e124) rfl) (aQ rfl (Ext.refl _) rfl))))
    · 
     exact fun _ _=>dk rfl rfl (aJ (mv 1 rfl (aQ rfl (Ext.refl _) rfl)))
    · 
     exact fun _ _=>dk rfl rfl (dk rfl rfl (dk rfl rfl (aJ (bT rfl rfl rfl bU bN i rfl p37 hp37 (aQ rfl (Ext.refl _) rfl)))))
    · 
     exact fun _ e160=>dk rfl rfl (dk rfl rfl (aJ (aS rfl rfl (cZ d7 (e160.cell hc37)) (aQ rfl (Ext.refl _) rfl))))
    · 
     exact fun _ _=>dk rfl rfl (dk rfl rfl (aJ (pu (v:= .float .f64 (fs.getD i 0)) rfl (aQ rfl (Ext.refl _) rfl))))
    · 
     exact fun _ _=>dk rfl rfl (dk rfl rfl (aJ (pu (v:= .int .u64 ((fs.getD i 0:Nat):Int)) rfl (aQ rfl (Ext.refl _) rfl))))
    · 
     exact fun _ _=>dk rfl rfl (dk rfl rfl (dk rfl rfl (aJ (aB rfl rfl rfl false (lU (a:=(fs++gM j).getD i 0) (b:=fs.getD i 0) rfl rfl) (aQ rfl (Ext.refl _) rfl)))))
    · 
     exact fun _ _=>dk rfl rfl (dk rfl rfl (aJ (pu (v:= .bool false) rfl (aQ rfl (Ext.refl _) rfl))))
    · 
     exact fun _ _=>dk rfl rfl (aJ (mv 1 rfl (aQ rfl (Ext.refl _) rfl)))
    · 
     exact fun _ _=>dk rfl rfl (aJ (mv 1 rfl (aQ rfl (Ext.refl _) rfl)))
    · 
     exact fun _ _=>dk rfl rfl (aJ (mv 1 rfl (aQ rfl (Ext.refl _) rfl)))
    · 
     exact fun _ _=>dk rfl rfl (dk rfl rfl (dk rfl rfl (aJ (aB rfl rfl rfl false (iF (a:=i) (b:=m) rfl rfl) (aQ rfl (Ext.refl _) rfl)))))
    · 
     exact fun _ _=>dk rfl rfl (dk rfl rfl (aJ (mv 1 rfl (aQ rfl (Ext.refl _) rfl))))
    · 
     exact fun _ _=>dk rfl rfl (aJ (mv 1 rfl (aQ rfl (Ext.refl _) rfl)))
    · 
     exact fun _ _=>dk rfl rfl (aJ (mv 1 rfl (aQ rfl (Ext.refl _) rfl)))
    · 
     exact fun _ _=>dk rfl rfl (dk rfl rfl (dk rfl rfl (aJ (mv 1 rfl (aQ rfl (Ext.refl _) rfl)))))
    · 
     exact fun _ _=>dk rfl rfl (dk rfl rfl (aJ (mv 1 rfl (aQ rfl (Ext.refl _) rfl))))
    · 
     exact fun _ _=>dk rfl rfl (aJ (mv 1 rfl (aQ rfl (Ext.refl _) rfl)))
    · 
     exact fun _ _=>dk rfl rfl (aJ (mv 1 rfl (aQ rfl (Ext.refl _) rfl)))
    · 
     exact fun _ _=>dk rfl rfl (dk rfl rfl (dk rfl rfl (aJ (mv 1 rfl (aQ rfl (Ext.refl _) rfl)))))
    · 
     exact fun _ _=>dk rfl rfl (dk rfl rfl (aJ (mv 1 rfl (aQ rfl (Ext.refl _) rfl))))
    · 
     exact fun _ _=>dk rfl rfl (dk rfl rfl (aJ (mv 1 rfl (aQ rfl (Ext.refl _) rfl))))
    · 
     exact fun _ _=>dk rfl rfl (dk rfl rfl (dk rfl rfl (aJ (mv 1 rfl (aQ rfl (Ext.refl _) rfl)))))
    · 
     exact fun _ _=>dk rfl rfl (dk rfl rfl (dk rfl rfl (aJ (pu (v:= .bool false) rfl (aQ rfl (Ext.refl _) rfl)))))
    · 
     exact fun _ _=>dk rfl rfl (dk rfl rfl (aJ (pu (v:= .bool false) rfl (aQ rfl (Ext.refl _) rfl))))
    · 
     intro v418 e419
     have hw2:=hw1.trans e419
     refine dk rfl rfl (dk rfl rfl (dk rfl rfl (dk rfl rfl (dk rfl rfl (dk rfl rfl (dk rfl rfl (dk rfl rfl (dk rfl rfl (dk rfl rfl (dk rfl rfl (dk rfl rfl (dk rfl rfl (dk rfl rfl ?_)))))))))))))
     refine dk rfl rfl (dk rfl rfl (dk rfl rfl (dk rfl rfl (dk rfl rfl (dk rfl rfl (dk rfl rfl (dk rfl rfl (dk rfl rfl (dk rfl rfl (dk rfl rfl (dk rfl rfl (dk rfl rfl (dk rfl rfl ?_)))))))))))))
     refine dk rfl rfl (dk rfl rfl (dk rfl rfl (dk rfl rfl (dk rfl rfl (dk rfl rfl (dk rfl rfl (aJ (aU (gQ (aD (aI rfl (aN (cA ?_)))))))))))))
     refine aD (a7 (mv 1 rfl (aE rfl rfl rfl ((i+1:Nat):Int) (bF (a:=i) (b:=1) rfl rfl) (mv 1 rfl (aU (cH (⟨v418,i+1⟩:a6×Nat) ⟨hw2,(hB2.ext e419),(ho9.ext e419),(by omega)⟩ (show m+j-(i+1)<m+j-i by omega) rfl ⟨rfl,rfl,rfl,rfl,trivial⟩))))))
   · 
    have hhi:(fs++gM j).getD i 0=iQ (i-m+1):=by have h:=a0f (fs:=fs) (i:=i) (j:=j) (by omega) (by omega);rwa [hlf] at h
    obtain⟨p595,hp595,hc595⟩:=(ho9).atF (i:=i) (by omega)
    refine gR eZ 35 [] [Is (.int .i64 i),Is (.int .i64 m),Is (.bool false),Is (.bool false),Is (undef),Is (undef),Is (undef),Is (undef),Is (undef),Is (undef),Is (undef),Is (undef),Is (undef),Is (undef),Is (undef),Is (undef),Is (undef),Is (.bool false),Is (.bool false),Is (.int .i64 i),Is (.int .i64 m),Is (.bool true),Is (.bool true),Is (.slice A9 (m+j) c9),Is (.int .i64 i),Is (.pointer (some p595)),Is (.float .f64 ((fs++gM j).getD i 0)),Is (.int .i64 i),Is (.int .i64 m),Is (.int .i64 ((i-m:Nat):Int)),Is (.int .i64 (((i-m)+1:Nat):Int)),Is (.float .f64 (iQ ((i-m)+1))),Is (.bool false),Is (.bool false),Is (.bool false)] [[],[],[0,1],[2],[3],[3],[3,4,5],[3,6],[3,7],[3],[3,9],[3],[3,10,11],[3,12],[3,13],[3,14],[3,8,15],[3,16],[17],[18],[18],[18,19,20],[18,21],[22],[22],[22,23,24],[22,25],[22],[22],[22,27,28],[22,29],[22,30],[22,26,31],[18,22,32],[18,33]] [[],[],[0,1],[0,1,2],[0,1,2,3],[0,1,2,3],[0,1,2,3,4,5],[0,1,2,3,4,5,6],[0,1,2,3,4,5,6,7],[0,1,2,3],[0,1,2,3,9],[0,1,2,3],[0,1,2,3,9,10,11],[0,1,2,3,9,10,11,12],[0,1,2,3,4,5,6,7,8,9,10,11,12,13],[0,1,2,3,4,5,6,7,8,9,10,11,12,13,14],[0,1,2,3,4,5,6,7,8,9,10,11,12,13,14,15],[0,1,2,3,4,5,6,7,8,9,10,11,12,13,14,15,16],[0,1,2,3,4,5,6,7,8,9,10,11,12,13,14,15,16,17],[0,1,2,3,4,5,6,7,8,9,10,11,12,13,14,15,16,17,18],[0,1,2,3,4,5,6,7,8,9,10,11,12,13,14,15,16,17,18],[0,1,2,3,4,5,6,7,8,9,10,11,12,13,14,15,16,17,18,19,20],[0,1,2,3,4,5,6,7,8,9,10,11,12,13,14,15,16,17,18,19,20,21],[0,1,2,3,4,5,6,7,8,9,10,11,12,13,14,15,16,17,18,19,20,21,22],[0,1,2,3,4,5,6,7,8,9,10,11,12,13,14,15,16,17,18,19,20,21,22],[0,1,2,3,4,5,6,7,8,9,10,11,12,13,14,15,16,17,18,19,20,21,22,23,24],[0,1,2,3,4,5,6,7,8,9,10,11,12,13,14,15,16,17,18,19,20,21,22,23,24,25],[0,1,2,3,4,5,6,7,8,9,10,11,12,13,14,15,16,17,18,19,20,21,22],[0,1,2,3,4,5,6,7,8,9,10,11,12,13,14,15,16,17,18,19,20,21,22],[0,1,2,3,4,5,6,7,8,9,10,11,12,13,14,15,16,17,18,19,20,21,22,27,28],[0,1,2,3,4,5,6,7,8,9,10,11,12,13,14,15,16,17,18,19,20,21,22,27,28,29],[0,1,2,3,4,5,6,7,8,9,10,11,12,13,14,15,16,17,18,19,20,21,22,27,28,29,30],[0,1,2,3,4,5,6,7,8,9,10,11,12,13,14,15,16,17,18,19,20,21,22,23,24,25,26,27,28,29,30,31],[0,1,2,3,4,5,6,7,8,9,10,11,12,13,14,15,16,17,18,19,20,21,22,23,24,25,26,27,28,29,30,31,32],[0,1,2,3,4,5,6,7,8,9,10,11,12,13,14,15,16,17,18,19,20,21,22,23,24,25,26,27,28,29,30,31,32,33]] rfl
     (aR rfl rfl (aK rfl rfl ?_) (aR rfl rfl (aK rfl rfl ?_) (aR rfl rfl (aK rfl rfl ?_) (aR rfl rfl (aK rfl rfl ?_) (aR rfl rfl (aK rfl rfl ?_) (aR rfl rfl (aK rfl rfl ?_) (aR rfl rfl (aK rfl rfl ?_) (aR rfl rfl (aK rfl rfl ?_) (aR rfl rfl (aK rfl rfl ?_) (aR rfl rfl (aK rfl rfl ?_) (aR rfl rfl (aK rfl rfl ?_) (aR rfl rfl (aK rfl rfl ?_) (aR rfl rfl (aK rfl rfl ?_) (aR rfl rfl (aK rfl rfl ?_) (aR rfl rfl (aK rfl rfl ?_) (aR rfl rfl (aK rfl rfl ?_) (aR rfl rfl (aK rfl rfl ?_) (aR rfl rfl (aK rfl rfl ?_) (aR rfl rfl (aK rfl rfl ?_) (aR rfl rfl (aK rfl rfl ?_) (aR rfl rfl (aK rfl rfl ?_) (aR rfl rfl (aK rfl rfl ?_) (aR rfl rfl (aK rfl rfl ?_) (aR rfl rfl (aK rfl rfl ?_) (aR rfl rfl (aK rfl rfl ?_) (aR rfl rfl (aK rfl rfl ?_) (aR rfl rfl (aK rfl rfl ?_) (aR rfl rfl (aK rfl rfl ?_) (aR rfl rfl (aK rfl rfl ?_) (aR rfl rfl (aK rfl rfl ?_) (aR rfl rfl (aK rfl rfl ?_) (aR rfl rfl (aK rfl rfl ?_) (aR rfl rfl (aK rfl rfl ?_) (aR rfl rfl (aK rfl rfl ?_) (aR rfl rfl (aK rfl rfl ?_) gP))))))))))))))))))))))))))))))))))) ?_
    · 
     exact fun _ _=>aJ (mv 1 rfl (aQ rfl (Ext.refl _) rfl))
    · 
     exact fun _ _=>aJ (mv 1 rfl (aQ rfl (Ext.refl _) rfl))
    · 
     exact fun _ _=>dk rfl rfl (dk rfl rfl (aJ (aB rfl rfl rfl false (cX (a:=i) (b:=m) rfl rfl) (aQ rfl (Ext.refl _) rfl))))
    · 
     exact fun _ _=>dk rfl rfl (aJ (mv 1 rfl (aQ rfl (Ext.refl _) rfl)))
    · 
     exact fun _ _=>dk rfl rfl (aJ (mv 1 rfl (aQ rfl (Ext.refl _) rfl)))
    · 
     exact fun _ _=>dk rfl rfl (aJ (mv 1 rfl (aQ rfl (Ext.refl _) rfl)))
    · 
     exact fun _ _=>dk rfl rfl (dk rfl rfl (dk rfl rfl (aJ (mv 1 rfl (aQ rfl (Ext.refl _) rfl)))))
    · 
     exact fun _ _=>dk rfl rfl (dk rfl rfl (aJ (mv 1 rfl (aQ rfl (Ext.refl _) rfl))))
    · 
     exact fun _ _=>dk rfl rfl (dk rfl rfl (aJ (mv 1 rfl (aQ rfl (Ext.refl _) rfl))))
    · 
     exact fun _ _=>dk rfl rfl (aJ (mv 1 rfl (aQ rfl (Ext.refl _) rfl)))
    · 
     exact fun _ _=>dk rfl rfl (dk rfl rfl (aJ (mv 1 rfl (aQ rfl (Ext.refl _) rfl))))
    · 
     exact fun _ _=>dk rfl rfl (aJ (mv 1 rfl (aQ rfl (Ext.refl _) rfl)))
    · 
     exact fun _ _=>dk rfl rfl (dk rfl rfl (dk rfl rfl (aJ (mv 1 rfl (aQ rfl (Ext.refl _) rfl)))))
    · 
     exact fun _ _=>dk rfl rfl (dk rfl rfl (aJ (mv 1 rfl (aQ rfl (Ext.refl _) rfl))))
    · 
     exact fun _ _=>dk rfl rfl (dk rfl rfl (aJ (mv 1 rfl (aQ rfl (Ext.refl _) rfl))))
    · 
     exact fun _ _=>dk rfl rfl (dk rfl rfl (aJ (mv 1 rfl (aQ rfl (Ext.refl _) rfl))))
    · 
     exact fun _ _=>dk rfl rfl (dk rfl rfl (dk rfl rfl (aJ (mv 1 rfl (aQ rfl (Ext.refl _) rfl)))))
    · 
     exact fun _ _=>dk rfl rfl (dk rfl rfl (aJ (pu (v:= .bool false) rfl (aQ rfl (Ext.refl _) rfl))))
    · 
     exact fun _ _=>dk rfl rfl (aJ (mv 1 rfl (aQ rfl (Ext.refl _) rfl)))
    · 
     exact fun _ _=>dk rfl rfl (aJ (mv 1 rfl (aQ rfl (Ext.refl _) rfl)))
    · 
     exact fun _ _=>dk rfl rfl (aJ (mv 1 rfl (aQ rfl (Ext.refl _) rfl)))
    · 
     exact fun _ _=>dk rfl rfl (dk rfl rfl (dk rfl rfl (aJ (aB rfl rfl rfl true (eI (a:=i) (b:=m) rfl rfl) (aQ rfl (Ext.refl _) rfl)))))
    · 
     exact fun _ _=>dk rfl rfl (dk rfl rfl (aJ (mv 1 rfl (aQ rfl (Ext.refl _) rfl))))
    · 
     exact fun _ _=>dk rfl rfl (aJ (mv 1 rfl (aQ rfl (Ext.refl _) rfl)))
    · 
     exact fun _ _=>dk rfl rfl (aJ (mv 1 rfl (aQ rfl (Ext.refl _) rfl)))
    · 
     exact fun _ _=>dk rfl rfl (dk rfl rfl (dk rfl rfl (aJ (bT rfl rfl rfl oP q6 i rfl p595 hp595 (aQ rfl (Ext.refl _) rfl)))))
    · 
     exact fun _ e864=>dk rfl rfl (dk rfl rfl (aJ (aS rfl rfl (cZ E2 (e864.cell hc595)) (aQ rfl (Ext.refl _) rfl))))
    · 
     exact fun _ _=>dk rfl rfl (aJ (mv 1 rfl (aQ rfl (Ext.refl _) rfl)))
    · 
     exact fun _ _=>dk rfl rfl (aJ (mv 1 rfl (aQ rfl (Ext.refl _) rfl)))
    · 
     exact fun _ _=>dk rfl rfl (dk rfl rfl (dk rfl rfl (aJ (aE rfl rfl rfl ((i-m:Nat):Int) (eR (a:=i) (b:=m) rfl rfl) (aQ rfl (Ext.refl _) rfl)))))
    · 
     exact fun _ _=>dk rfl rfl (dk rfl rfl (aJ (aE rfl rfl rfl (((i-m)+1:Nat):Int) (bF (a:=i-m) (b:=1) rfl rfl) (aQ rfl (Ext.refl _) rfl))))
    · 
     exact fun _ _=>dk rfl rfl (dk rfl rfl (aJ (pu (v:= .float .f64 (iQ ((i-m)+1))) rfl (aQ rfl (Ext.refl _) rfl))))
    · 
     exact fun _ _=>dk rfl rfl (dk rfl rfl (dk rfl rfl (aJ (bD rfl rfl (v:= .bool (FloatKind.f64.format.order ((fs++gM j).getD i 0) (iQ ((i-m)+1)) != some .eq)) (v':= .bool false) (congrArg Value.bool (VK hhi (M9 (by omega)) (MB (by omega)))) (aQ rfl (Ext.refl _) rfl)))))
    · 
     exact fun _ _=>dk rfl rfl (dk rfl rfl (dk rfl rfl (aJ (pu (v:= .bool false) rfl (aQ rfl (Ext.refl _) rfl)))))
    · 
     exact fun _ _=>dk rfl rfl (dk rfl rfl (aJ (pu (v:= .bool false) rfl (aQ rfl (Ext.refl _) rfl))))
    · 
     intro v976 e977
     have hw2:=hw1.trans e977
     refine dk rfl rfl (dk rfl rfl (dk rfl rfl (dk rfl rfl (dk rfl rfl (dk rfl rfl (dk rfl rfl (dk rfl rfl (dk rfl rfl (dk rfl rfl (dk rfl rfl (dk rfl rfl (dk rfl rfl (dk rfl rfl ?_)))))))))))))
     refine dk rfl rfl (dk rfl rfl (dk rfl rfl (dk rfl rfl (dk rfl rfl (dk rfl rfl (dk rfl rfl (dk rfl rfl (dk rfl rfl (dk rfl rfl (dk rfl rfl (dk rfl rfl (dk rfl rfl (dk rfl rfl ?_)))))))))))))
     refine dk rfl rfl (dk rfl rfl (dk rfl rfl (dk rfl rfl (dk rfl rfl (dk rfl rfl (dk rfl rfl (aJ (aU (gQ (aD (aI rfl (aN (cA ?_)))))))))))))
     refine aD (a7 (mv 1 rfl (aE rfl rfl rfl ((i+1:Nat):Int) (bF (a:=i) (b:=1) rfl rfl) (mv 1 rfl (aU (cH (⟨v976,i+1⟩:a6×Nat) ⟨hw2,(hB2.ext e977),(ho9.ext e977),(by omega)⟩ (show m+j-(i+1)<m+j-i by omega) rfl ⟨rfl,rfl,rfl,rfl,trivial⟩))))))
  · 
   refine a7 (mv 2 rfl (pu (v:= .int .i64 ((m+j:Nat):Int)) rfl (aB rfl rfl rfl false (cX (a:=i) (b:=m+j) rfl rfl) (a0 (aI rfl (cR (cN (cP (cQ (aD (aA (sr (mv 1 rfl ?_)))))))))))))
   refine a0 (bG ?_)
   refine d4 (T:=a6×Nat)
    (fun⟨wr,i⟩=> [(2,.pointer (some ⟨g1,0,none⟩)),(5,.int .i64 m),(6,.slice A9 (m+j) c9),(13,.int .i64 i)])
    (fun⟨wr,i⟩=>wr)
    (fun⟨wr,i⟩=>(Ext w wr)∧(Bk wr g1 71 [.int .i64 k,.bool sa,.slice Aa xs.length ca,.bool sb,.slice Ab ys.length cb,.int .u64 f,.slice C m c,.string (a8 bs),.int .i64 nn])∧(Own wr w.heap.size 73 1 A9 (m+j) c9 ((mS i (fs++gM j)).map iU))∧(i≤m))
    (fun⟨wr,i⟩=>m-i)
    (⟨wr,0⟩:a6×Nat) ⟨hw1,hB2,(by rw [VQ];exact ho9),(bW _)⟩ rfl ⟨rfl,rfl,rfl,rfl,trivial⟩ ?_
   rintro⟨wr,i⟩ ⟨hw1,hB2,ho9,hi⟩
   refine cC [(2,.pointer (some ⟨g1,0,none⟩)),(5,.int .i64 m),(6,.slice A9 (m+j) c9),(13,.int .i64 i)] wr rfl ⟨rfl,rfl,rfl,rfl,trivial⟩ (aA (aA ?_))
   by_cases hilt:i<m
   · 
    refine a7 (mv 2 rfl (aB rfl rfl rfl true (dB (a:=i) (b:=m) rfl rfl) (a0 (aP rfl (aN (aD (aA (bG (a7 (mv 2 rfl ?_))))))))))
    obtain⟨p1153,hp1153,hc1153⟩:=(ho9).atF (i:=i) (by omega)
    refine bT rfl rfl rfl oP q6 i rfl p1153 hp1153 ?_
    have lt1157:=ho9
    refine OX rfl rfl rfl lt1157 hp1153 (by omega) fun v1154 ho1155 uo1156=>?_
    have hw2:=uo1156.ext hw1 (fun p hp=>by have:=(lt1157.block p hp).1;omega)
    refine aU (cA (aD (a7 (mv 1 rfl (aE rfl rfl rfl ((i+1:Nat):Int) (bF (a:=i) (b:=1) rfl rfl) (mv 1 rfl (aU (cH (⟨v1154,i+1⟩:a6×Nat) ⟨hw2,(hB2.updO uo1156 (vF lt1157 hB2 (by decide))),(by have h:=ho1155;rwa [VS (by rw [cL,a0e];omega)] at h),(by omega)⟩ (show m-(i+1)<m-i by omega) rfl ⟨rfl,rfl,rfl,rfl,trivial⟩))))))))
   · 
    have hie:i=m:=by omega
    rw [hie] at ho9
    have htk:=VR m (fs++gM j)
    have hto:=QC (n:=m) (by omega)
    rw [←htk] at hto
    refine a7 (mv 2 rfl (aB rfl rfl rfl false (cX (a:=i) (b:=m) rfl rfl) (a0 (aI rfl (cR (cN (cP (cQ (aD (sr (mv 2 rfl (jT rfl rfl oP q6 (lo:=0) (hi:=m) rfl rfl (by omega) (by have:=(ho9).rv.le;omega) (v:= .slice A9 m c9) (oT _ _ _) (by decide) (cl (vs:= [.slice A9 m c9]) hw1 (D1 ((ho9).rfT (k:=m) (by omega) (by rw [htk];exact fun _ h=>X2 h)) (bQ hm rfl)) rfl (by kernel_rfl) fun xr1160 v1158 r1160 e1159 hw2=>?_)))))))))))))
    obtain⟨_,_,rfl,rfl,rfl⟩:=r1160
    refine mv 1 rfl (pu (v:= .float .f64 (iI ((mS m (fs++gM j)).take m))) rfl (pu (v:= .int .i64 (kO ((mS m (fs++gM j)).take m))) rfl (mv 2 rfl (a0 (sr (mv 1 rfl (aB rfl rfl rfl true (gD hto.2) (mv 3 rfl (pu (v:= .float .f64 (iQ m)) rfl (bD rfl rfl (v:= .bool (FloatKind.f64.format.order (iI ((mS m (fs++gM j)).take m)) (iQ m)==some .eq)) (v':= .bool true) (congrArg Value.bool (VN hto.1 (M9 (by omega)) (MB (by omega)))) (pu (v:= .bool true) rfl (mv 1 rfl (aU ?_)))))))))))))
    refine aD (aM (aL [.bool true] rfl ⟨rfl,trivial⟩ ?_))
    exact⟨_,rfl,rfl,hw2⟩
def Dk1 (x:Lst):List Lst→Prop
 | []=>True
 | y::r=>(∀p q,x.A=some p→y.A=some q→p.block≠q.block)∧Dk1 x r
def DkL:List Lst→Prop
 | []=>True
 | x::r=>Dk1 x r∧DkL r
def OkL (w:a6)(lb:Nat):List Lst→Prop
 | []=>True
 | x::r=>(∃xs:List Nat,Own w lb 65 1 x.A x.n x.c (xs.map aW))∧OkL w lb r
theorem Dk1.at_ {x:Lst}:∀{r:List Lst},Dk1 x r→∀b,b<r.length→∀p q,x.A=some p→(r.getD b Lst.z).A=some q→p.block≠q.block
 | [],_,b,h,_,_,_,_=>absurd h (Nat.not_lt_zero _)
 | _::_,h,0,_,p,q,hp,hq=>h.1 p q hp hq
 | _::r,h,b+1,hb,p,q,hp,hq=>Dk1.at_ h.2 b (by simpa using hb) p q hp hq
theorem DkL.at_:∀{ls:List Lst},DkL ls→∀a b,a<ls.length→b<ls.length→a≠b→∀p q,(ls.getD a Lst.z).A=some p→(ls.getD b Lst.z).A=some q→p.block≠q.block
 | [],_,a,_,h,_,_,_,_,_,_=>absurd h (Nat.not_lt_zero _)
 | _::_,_,0,0,_,_,hne,_,_,_,_=>absurd rfl hne
 | _::r,h,0,b+1,_,hb,_,p,q,hp,hq=>h.1.at_ b (by simpa using hb) p q hp hq
 | _::r,h,a+1,0,ha,_,_,p,q,hp,hq=>fun e=>h.1.at_ a (by simpa using ha) q p hq hp e.symm
 | _::r,h,a+1,b+1,ha,hb,hne,p,q,hp,hq=>DkL.at_ h.2 a b (by simpa using ha) (by simpa using hb) (fun e=>hne (by rw [e])) p q hp hq
theorem OkL.at_ {w:a6}{lb:Nat}:∀{ls:List Lst},OkL w lb ls→∀a,a<ls.length→∃xs:List Nat,Own w lb 65 1 (ls.getD a Lst.z).A (ls.getD a Lst.z).n (ls.getD a Lst.z).c (xs.map aW)
 | [],_,a,h=>absurd h (Nat.not_lt_zero _)
 | _::_,h,0,_=>h.1
 | _::r,h,a+1,ha=>OkL.at_ h.2 a (by simpa using ha)
theorem a1w {w:a6}(hd:DkL ls)(ho:OkL w lb ls):Al0 w lb ls:=
 ⟨hd.at_,fun a ha=>by
  obtain⟨xs,h⟩:=ho.at_ a ha
  exact⟨xs,h,fun h=>absurd h (Nat.not_lt_zero _),fun _=>rfl⟩⟩
theorem xN {s:Nat}(h:∀p,A=some p→s≤p.block∧p.block<e)(h':∀p,B=some p→s'≤p.block∧p.block<e')(hle:e'≤s):∀p q,A=some p→B=some q→p.block≠q.block:=fun p q hp hq=>by
 have:=h p hp;have:=h' q hq;omega
theorem mQ {s:Nat}(h:∀p,A=some p→s≤p.block∧p.block<e)(h':∀p,B=some p→s'≤p.block∧p.block<e')(hle:e≤s'):∀p q,A=some p→B=some q→p.block≠q.block:=fun p q hp hq=>by
 have:=h p hp;have:=h' q hq;omega
set_option maxHeartbeats 16000000 in
set_option maxRecDepth 20000 in
theorem XQ {w:a6}{pm pc:Nat}(hx:Rd w Aa xs.length ca xs)(hal:xs.length≤1048576)(hy:Rd w Ab ys.length cb ys)(hbl:ys.length≤1048576)(hf64:f<18446744073709551616)(hl:Rd w C m c fs)(hm:m≤1048576)(hbs:∀b,b∈bs→b<256)(hlen:bs.length≤1048576)(hS:Signs w)(hpf:pfl<18446744073709551616):
    aO aF 7 #[.agg #[.int .i64 k,.bool sa,.slice Aa xs.length ca,.bool sb,.slice Ab ys.length cb,.int .u64 f,.slice C m c,.string (a8 bs),.int .i64 nn],.agg #[.int .i64 pk,.bool psa,.slice PA pan pac,.bool psb,.slice PB pbn pbc,.int .u64 pfl,.slice PC pm pc,.string (a8 pbs),.int .i64 pn]] w (Gv w (Is (.bool true))):=by
 refine bK Tryz.func7 rfl (n:=156) rfl (bq rfl) (args:= [.agg #[.int .i64 k,.bool sa,.slice Aa xs.length ca,.bool sb,.slice Ab ys.length cb,.int .u64 f,.slice C m c,.string (a8 bs),.int .i64 nn],.agg #[.int .i64 pk,.bool psa,.slice PA pan pac,.bool psb,.slice PB pbn pbc,.int .u64 pfl,.slice PC pm pc,.string (a8 pbs),.int .i64 pn]]) (bE [(0,.agg #[.int .i64 k,.bool sa,.slice Aa xs.length ca,.bool sb,.slice Ab ys.length cb,.int .u64 f,.slice C m c,.string (a8 bs),.int .i64 nn]),(1,.agg #[.int .i64 pk,.bool psa,.slice PA pan pac,.bool psb,.slice PB pbn pbc,.int .u64 pfl,.slice PC pm pc,.string (a8 pbs),.int .i64 pn])] ⟨rfl,rfl,trivial⟩ (sr (bx [.int .i64 k,.bool sa,.slice Aa xs.length ca,.bool sb,.slice Ab ys.length cb,.int .u64 f,.slice C m c,.string (a8 bs),.int .i64 nn] (Ext.refl w) rfl rfl rfl fun g1 v2 hb4 ge5 e3 hw1=>(pI [.int .i64 pk,.bool psa,.slice PA pan pac,.bool psb,.slice PB pbn pbc,.int .u64 pfl,.slice PC pm pc,.string (a8 pbs),.int .i64 pn] hw1 hb4.lt rfl rfl rfl fun g6 v7 hb9 ge10 q11 e8 hw2=>(mv 1 rfl (a0 (aA (sr (dD rfl rfl (vs:= []) (by kernel_rfl) (by decide) Z5 ?_)))))))))
 rintro _ v12 ⟨xr14,rfl,r14,e13⟩
 refine dE ?_
 have hw3:=hw2.trans e13
 obtain rfl:=r14
 refine pu (v:= .bool false) rfl (a0 (aI rfl (aN (aD (sr (pf g1 5 rfl (aS rfl rfl (aY (fun _=>by kernel_rfl) (hb4.ext (e8.trans e13)) rfl) (pu (v:= .float .f64 f) rfl (mv 1 rfl (a0 (aA ?_)))))))))))
 obtain⟨zr,er,hlr,hbw⟩:=DX hf64
 obtain⟨zs,ks,es,hls,hbq⟩:=MX hf64
 obtain⟨zp,ep,hlp,hbp⟩:=DX hpf
 refine a7 (pf g1 5 rfl (aS rfl rfl (aY (fun _=>by kernel_rfl) (hb4.ext (e8.trans e13)) rfl) (dD rfl rfl (vs:= [.int .u64 f]) (by kernel_rfl) (by decide) (hbw (w:=v12)).1 ?_)))
 rintro _ v15 ⟨xr17,rfl,r17,e16⟩
 refine dE ?_
 have hw4:=hw3.trans e16
 obtain⟨_,_,rfl,⟨s19,A19,n19,c19,rfl,z19⟩,rfl⟩:=r17
 refine mv 1 rfl (pu (v:= .agg #[.bool s19,.slice A19 n19 c19]) rfl (pu (v:= .int .i64 er) rfl (kW [F0,S0] hw4 (hb9.ext (e13.trans e16)).lt (fun _=>by kernel_rfl) rfl fun g20 v21 hb23 ge24 q25 e22 hw5=>(so bO hb23 [.bool s19,.slice A19 n19 c19] hw5 ge24 rfl rfl rfl rfl fun v26 hb28 u29 hw6=>(mv 1 rfl (a0 (sr (pf g1 5 rfl (aS rfl rfl (aY (fun _=>by kernel_rfl) ((hb4.ext (e8.trans (e13.trans (e16.trans e22)))).updN u29 (by omega)) rfl) (dD rfl rfl (vs:= [.int .u64 f]) (by kernel_rfl) (by decide) (hbq (w:=v26)).1 ?_))))))))))
 rintro _ v31 ⟨xr33,rfl,r33,e32⟩
 refine dE ?_
 have hw7:=hw6.trans e32
 obtain⟨_,_,_,rfl,⟨s35,A35,n35,c35,rfl,z35⟩,rfl,rfl⟩:=r33
 refine mv 1 rfl (pu (v:= .agg #[.bool s35,.slice A35 n35 c35]) rfl (pu (v:= .int .i64 ks) rfl (pu (v:= .int .i64 es) rfl (kW [F0,S0] hw7 (hb28.ext e32).lt (fun _=>by kernel_rfl) rfl fun g36 v37 hb39 ge40 q41 e38 hw8=>(so bO hb39 [.bool s35,.slice A35 n35 c35] hw8 ge40 rfl rfl rfl rfl fun v42 hb44 u45 hw9=>(mv 2 rfl (a0 (sr (mv 1 rfl (dD rfl rfl (vs:= [.float .f64 f]) (by kernel_rfl) (by decide) (hbw (w:=v42)).2 ?_))))))))))
 rintro _ v47 ⟨xr49,rfl,r49,e48⟩
 refine dE ?_
 have hw10:=hw9.trans e48
 obtain⟨_,_,rfl,⟨s51,A51,n51,c51,rfl,z51⟩,rfl⟩:=r49
 refine mv 1 rfl (pu (v:= .agg #[.bool s51,.slice A51 n51 c51]) rfl (pu (v:= .int .i64 er) rfl (m5 rfl (z:= .agg #[F0,S0]) (vs:= [F0,S0]) (fun _=>by kernel_rfl) rfl fun g52 v53 nb=>?_)))
 have geW_g52:v42.heap.size≤g52:=by rw [←nb.at_];exact e48.size
 have hb55:=nb.bk
 have ge56:w.heap.size≤g52:=by rw [←nb.at_];exact hw10.size
 have q57:g36<g52:=by rw [←nb.at_];exact (hb44.ext e48).lt
 have e54:=nb.ext
 clear nb
 have hw11:=hw10.trans e54
 refine so bO hb55 [.bool s51,.slice A51 n51 c51] hw11 ge56 rfl rfl rfl rfl fun v58 hb60 u61 hw12=>(mv 1 rfl (a0 (sr (mv 1 rfl (dD rfl rfl (vs:= [.float .f64 f]) (by kernel_rfl) (by decide) (hbq (w:=v58)).2 ?_)))))
 rintro _ v63 ⟨xr65,rfl,r65,e64⟩
 refine dE ?_
 have hw13:=hw12.trans e64
 obtain⟨_,_,_,rfl,⟨s67,A67,n67,c67,rfl,z67⟩,rfl,rfl⟩:=r65
 refine mv 1 rfl (pu (v:= .agg #[.bool s67,.slice A67 n67 c67]) rfl (pu (v:= .int .i64 ks) rfl (pu (v:= .int .i64 es) rfl (m5 rfl (z:= .agg #[F0,S0]) (vs:= [F0,S0]) (fun _=>by kernel_rfl) rfl fun g68 v69 nb=>?_))))
 have geW_g68:v42.heap.size≤g68:=by rw [←nb.at_];exact ((u61.ext (e48.trans e54) geW_g52).trans e64).size
 have hb71:=nb.bk
 have ge72:w.heap.size≤g68:=by rw [←nb.at_];exact hw13.size
 have q73:g52<g68:=by rw [←nb.at_];exact (hb60.ext e64).lt
 have eH:=nb.ext
 clear nb
 have hw14:=hw13.trans eH
 refine so bO hb71 [.bool s67,.slice A67 n67 c67] hw14 ge72 rfl rfl rfl rfl fun v74 hb76 u77 hw15=>(mv 2 rfl (a0 (sr (mv 1 rfl (dD rfl rfl (vs:= [.float .f64 f]) (by kernel_rfl) (by decide) (hbw (w:=v74)).2 ?_)))))
 rintro _ v79 ⟨xr81,rfl,r81,e80⟩
 refine dE ?_
 have hw16:=hw15.trans e80
 obtain⟨_,_,rfl,⟨s83,A83,n83,c83,rfl,z83⟩,rfl⟩:=r81
 refine mv 1 rfl (pu (v:= .agg #[.bool s83,.slice A83 n83 c83]) rfl (pu (v:= .int .i64 er) rfl (m5 rfl (z:= .agg #[F0,S0]) (vs:= [F0,S0]) (fun _=>by kernel_rfl) rfl fun g84 v85 nb=>?_)))
 have geW_g84:v42.heap.size≤g84:=by rw [←nb.at_];exact ((u77.ext (((u61.ext (e48.trans e54) geW_g52).trans e64).trans eH) geW_g68).trans e80).size
 have hb87:=nb.bk
 have ge88:w.heap.size≤g84:=by rw [←nb.at_];exact hw16.size
 have q89:g68<g84:=by rw [←nb.at_];exact (hb76.ext e80).lt
 have e86:=nb.ext
 clear nb
 have hw17:=hw16.trans e86
 refine so bO hb87 [.bool s83,.slice A83 n83 c83] hw17 ge88 rfl rfl rfl rfl fun v90 hb92 u93 hw18=>(mv 1 rfl (a0 (sr (mv 1 rfl (dD rfl rfl (vs:= [.float .f64 f]) (by kernel_rfl) (by decide) (hbq (w:=v90)).2 ?_)))))
 rintro _ v95 ⟨xr97,rfl,r97,e96⟩
 refine dE ?_
 have hw19:=hw18.trans e96
 obtain⟨_,_,_,rfl,⟨s99,A99,n99,c99,rfl,z99⟩,rfl,rfl⟩:=r97
 refine mv 1 rfl (pu (v:= .agg #[.bool s99,.slice A99 n99 c99]) rfl (pu (v:= .int .i64 ks) rfl (pu (v:= .int .i64 es) rfl (m5 rfl (z:= .agg #[F0,S0]) (vs:= [F0,S0]) (fun _=>by kernel_rfl) rfl fun g100 v101 nb=>?_))))
 have geW_g100:v42.heap.size≤g100:=by rw [←nb.at_];exact ((u93.ext (((u77.ext (((u61.ext (e48.trans e54) geW_g52).trans e64).trans eH) geW_g68).trans e80).trans e86) geW_g84).trans e96).size
 have hb103:=nb.bk
 have ge104:w.heap.size≤g100:=by rw [←nb.at_];exact hw19.size
 have q105:g84<g100:=by rw [←nb.at_];exact (hb92.ext e96).lt
 have e102:=nb.ext
 clear nb
 have hw20:=hw19.trans e102
 refine so bO hb103 [.bool s99,.slice A99 n99 c99] hw20 ge104 rfl rfl rfl rfl fun v106 hb108 u109 hw21=>(mv 2 rfl (a0 (sr (pf g6 5 rfl (aS rfl rfl (aY (fun _=>by kernel_rfl) ((((((((((((hb9.ext (e13.trans (e16.trans e22))).updN u29 (by omega)).ext (e32.trans e38)).updN u45 (by omega)).ext (e48.trans e54)).updN u61 (by omega)).ext (e64.trans eH)).updN u77 (by omega)).ext (e80.trans e86)).updN u93 (by omega)).ext (e96.trans e102)).updN u109 (by omega)) rfl) (pu (v:= .float .f64 pfl) rfl (dD rfl rfl (vs:= [.float .f64 pfl]) (by kernel_rfl) (by decide) (hbp (w:=v106)).2 ?_)))))))
 rintro _ v111 ⟨xr113,rfl,r113,e112⟩
 refine dE ?_
 have hw22:=hw21.trans e112
 obtain⟨_,_,rfl,⟨s115,A115,n115,c115,rfl,z115⟩,rfl⟩:=r113
 refine mv 1 rfl (pu (v:= .agg #[.bool s115,.slice A115 n115 c115]) rfl (pu (v:= .int .i64 ep) rfl (m5 rfl (z:= .agg #[F0,S0]) (vs:= [F0,S0]) (fun _=>by kernel_rfl) rfl fun g116 v117 nb=>?_)))
 have geW_g116:v42.heap.size≤g116:=by rw [←nb.at_];exact ((u109.ext (((u93.ext (((u77.ext (((u61.ext (e48.trans e54) geW_g52).trans e64).trans eH) geW_g68).trans e80).trans e86) geW_g84).trans e96).trans e102) geW_g100).trans e112).size
 have hb119:=nb.bk
 have ge120:w.heap.size≤g116:=by rw [←nb.at_];exact hw22.size
 have q121:g100<g116:=by rw [←nb.at_];exact (hb108.ext e112).lt
 have e118:=nb.ext
 clear nb
 have hw23:=hw22.trans e118
 refine so bO hb119 [.bool s115,.slice A115 n115 c115] hw23 ge120 rfl rfl rfl rfl fun v122 hb124 u125 hw24=>(mv 1 rfl (a0 (sr (mv 1 rfl (dD rfl rfl (vs:= [.float .f64 f]) (by kernel_rfl) (by decide) (hbw (w:=v122)).2 ?_)))))
 rintro _ v127 ⟨xr129,rfl,r129,e128⟩
 refine dE ?_
 have hw25:=hw24.trans e128
 obtain⟨_,_,rfl,⟨s131,A131,n131,c131,rfl,z131⟩,rfl⟩:=r129
 refine mv 1 rfl (pu (v:= .agg #[.bool s131,.slice A131 n131 c131]) rfl (pu (v:= .int .i64 er) rfl (m5 rfl (z:= .agg #[F0,S0]) (vs:= [F0,S0]) (fun _=>by kernel_rfl) rfl fun g132 v133 nb=>?_)))
 have geW_g132:v42.heap.size≤g132:=by rw [←nb.at_];exact ((u125.ext (((u109.ext (((u93.ext (((u77.ext (((u61.ext (e48.trans e54) geW_g52).trans e64).trans eH) geW_g68).trans e80).trans e86) geW_g84).trans e96).trans e102) geW_g100).trans e112).trans e118) geW_g116).trans e128).size
 have hb135:=nb.bk
 have ge136:w.heap.size≤g132:=by rw [←nb.at_];exact hw25.size
 have q137:g116<g132:=by rw [←nb.at_];exact (hb124.ext e128).lt
 have e134:=nb.ext
 clear nb
 have hw26:=hw25.trans e134
 refine so bO hb135 [.bool s131,.slice A131 n131 c131] hw26 ge136 rfl rfl rfl rfl fun v138 hb140 u141 hw27=>(mv 1 rfl (a0 (aA (sr (lo bO ((((((((((hb60.ext (e64.trans eH)).updN u77 (by omega)).ext (e80.trans e86)).updN u93 (by omega)).ext (e96.trans e102)).updN u109 (by omega)).ext (e112.trans e118)).updN u125 (by omega)).ext (e128.trans e134)).updN u141 (by omega)) [.bool s51,.slice A51 n51 c51] rfl rfl rfl (lo bO ((((((((((((((hb28.ext (e32.trans e38)).updN u45 (by omega)).ext (e48.trans e54)).updN u61 (by omega)).ext (e64.trans eH)).updN u77 (by omega)).ext (e80.trans e86)).updN u93 (by omega)).ext (e96.trans e102)).updN u109 (by omega)).ext (e112.trans e118)).updN u125 (by omega)).ext (e128.trans e134)).updN u141 (by omega)) [.bool s19,.slice A19 n19 c19] rfl rfl rfl (cl (vs:= [.agg #[.bool s51,.slice A51 n51 c51],.agg #[.bool s19,.slice A19 n19 c19]]) hw27 (pG ((((((((((((z51.ext e54).updT hb55 u61).ext (e64.trans eH)).updT hb71 u77).ext (e80.trans e86)).updT hb87 u93).ext (e96.trans e102)).updT hb103 u109).ext (e112.trans e118)).updT hb119 u125).ext (e128.trans e134)).updT hb135 u141) (z51.le (bQ hlr rfl)) ((((((((((((((((z19.ext e22).updT hb23 u29).ext (e32.trans e38)).updT hb39 u45).ext (e48.trans e54)).updT hb55 u61).ext (e64.trans eH)).updT hb71 u77).ext (e80.trans e86)).updT hb87 u93).ext (e96.trans e102)).updT hb103 u109).ext (e112.trans e118)).updT hb119 u125).ext (e128.trans e134)).updT hb135 u141) (z19.le (bQ hlr rfl))) rfl (by kernel_rfl) fun xr145 v143 r145 e144 hw28=>?_)))))))
 obtain rfl:=r145
 refine pu (v:= .bool false) rfl (mv 1 rfl (lo bO (((((((hb92.ext (e96.trans e102)).updN u109 (by omega)).ext (e112.trans e118)).updN u125 (by omega)).ext (e128.trans e134)).updN u141 (by omega)).ext e144) [.bool s83,.slice A83 n83 c83] rfl rfl rfl (lo bO (((((((((((((((hb28.ext (e32.trans e38)).updN u45 (by omega)).ext (e48.trans e54)).updN u61 (by omega)).ext (e64.trans eH)).updN u77 (by omega)).ext (e80.trans e86)).updN u93 (by omega)).ext (e96.trans e102)).updN u109 (by omega)).ext (e112.trans e118)).updN u125 (by omega)).ext (e128.trans e134)).updN u141 (by omega)).ext e144) [.bool s19,.slice A19 n19 c19] rfl rfl rfl (cl (vs:= [.agg #[.bool s83,.slice A83 n83 c83],.agg #[.bool s19,.slice A19 n19 c19]]) hw28 (pG (((((((((z83.ext e86).updT hb87 u93).ext (e96.trans e102)).updT hb103 u109).ext (e112.trans e118)).updT hb119 u125).ext (e128.trans e134)).updT hb135 u141).ext e144) (z83.le (bQ hlr rfl)) (((((((((((((((((z19.ext e22).updT hb23 u29).ext (e32.trans e38)).updT hb39 u45).ext (e48.trans e54)).updT hb55 u61).ext (e64.trans eH)).updT hb71 u77).ext (e80.trans e86)).updT hb87 u93).ext (e96.trans e102)).updT hb103 u109).ext (e112.trans e118)).updT hb119 u125).ext (e128.trans e134)).updT hb135 u141).ext e144) (z19.le (bQ hlr rfl))) rfl (by kernel_rfl) fun xr148 v146 r148 e147 hw29=>?_))))
 obtain rfl:=r148
 refine pu (v:= .bool false) rfl (pu (v:= .bool false) rfl (mv 1 rfl (lo bO (hb140.ext (e144.trans e147)) [.bool s131,.slice A131 n131 c131] rfl rfl rfl (lo bO (((((((((((((((hb28.ext (e32.trans e38)).updN u45 (by omega)).ext (e48.trans e54)).updN u61 (by omega)).ext (e64.trans eH)).updN u77 (by omega)).ext (e80.trans e86)).updN u93 (by omega)).ext (e96.trans e102)).updN u109 (by omega)).ext (e112.trans e118)).updN u125 (by omega)).ext (e128.trans e134)).updN u141 (by omega)).ext (e144.trans e147)) [.bool s19,.slice A19 n19 c19] rfl rfl rfl (cl (vs:= [.agg #[.bool s131,.slice A131 n131 c131],.agg #[.bool s19,.slice A19 n19 c19]]) hw29 (pG (((z131.ext e134).updT hb135 u141).ext (e144.trans e147)) (z131.le (bQ hlr rfl)) (((((((((((((((((z19.ext e22).updT hb23 u29).ext (e32.trans e38)).updT hb39 u45).ext (e48.trans e54)).updT hb55 u61).ext (e64.trans eH)).updT hb71 u77).ext (e80.trans e86)).updT hb87 u93).ext (e96.trans e102)).updT hb103 u109).ext (e112.trans e118)).updT hb119 u125).ext (e128.trans e134)).updT hb135 u141).ext (e144.trans e147)) (z19.le (bQ hlr rfl))) rfl (by kernel_rfl) fun xr151 v149 r151 e150 hw30=>?_)))))
 obtain rfl:=r151
 refine pu (v:= .bool false) rfl (pu (v:= .bool false) rfl (mv 1 rfl (lo bO (((((((((hb76.ext (e80.trans e86)).updN u93 (by omega)).ext (e96.trans e102)).updN u109 (by omega)).ext (e112.trans e118)).updN u125 (by omega)).ext (e128.trans e134)).updN u141 (by omega)).ext (e144.trans (e147.trans e150))) [.bool s67,.slice A67 n67 c67] rfl rfl rfl (lo bO (((((((((((((hb44.ext (e48.trans e54)).updN u61 (by omega)).ext (e64.trans eH)).updN u77 (by omega)).ext (e80.trans e86)).updN u93 (by omega)).ext (e96.trans e102)).updN u109 (by omega)).ext (e112.trans e118)).updN u125 (by omega)).ext (e128.trans e134)).updN u141 (by omega)).ext (e144.trans (e147.trans e150))) [.bool s35,.slice A35 n35 c35] rfl rfl rfl (cl (vs:= [.agg #[.bool s67,.slice A67 n67 c67],.agg #[.bool s35,.slice A35 n35 c35]]) hw30 (pG (((((((((((z67.ext eH).updT hb71 u77).ext (e80.trans e86)).updT hb87 u93).ext (e96.trans e102)).updT hb103 u109).ext (e112.trans e118)).updT hb119 u125).ext (e128.trans e134)).updT hb135 u141).ext (e144.trans (e147.trans e150))) (z67.le (bQ hls rfl)) (((((((((((((((z35.ext e38).updT hb39 u45).ext (e48.trans e54)).updT hb55 u61).ext (e64.trans eH)).updT hb71 u77).ext (e80.trans e86)).updT hb87 u93).ext (e96.trans e102)).updT hb103 u109).ext (e112.trans e118)).updT hb119 u125).ext (e128.trans e134)).updT hb135 u141).ext (e144.trans (e147.trans e150))) (z35.le (bQ hls rfl))) rfl (by kernel_rfl) fun xr154 v152 r154 e153 hw31=>?_)))))
 obtain rfl:=r154
 refine pu (v:= .bool false) rfl (pu (v:= .bool false) rfl (mv 1 rfl (lo bO (((((hb108.ext (e112.trans e118)).updN u125 (by omega)).ext (e128.trans e134)).updN u141 (by omega)).ext (e144.trans (e147.trans (e150.trans e153)))) [.bool s99,.slice A99 n99 c99] rfl rfl rfl (lo bO (((((((((((((hb44.ext (e48.trans e54)).updN u61 (by omega)).ext (e64.trans eH)).updN u77 (by omega)).ext (e80.trans e86)).updN u93 (by omega)).ext (e96.trans e102)).updN u109 (by omega)).ext (e112.trans e118)).updN u125 (by omega)).ext (e128.trans e134)).updN u141 (by omega)).ext (e144.trans (e147.trans (e150.trans e153)))) [.bool s35,.slice A35 n35 c35] rfl rfl rfl (cl (vs:= [.agg #[.bool s99,.slice A99 n99 c99],.agg #[.bool s35,.slice A35 n35 c35]]) hw31 (pG (((((((z99.ext e102).updT hb103 u109).ext (e112.trans e118)).updT hb119 u125).ext (e128.trans e134)).updT hb135 u141).ext (e144.trans (e147.trans (e150.trans e153)))) (z99.le (bQ hls rfl)) (((((((((((((((z35.ext e38).updT hb39 u45).ext (e48.trans e54)).updT hb55 u61).ext (e64.trans eH)).updT hb71 u77).ext (e80.trans e86)).updT hb87 u93).ext (e96.trans e102)).updT hb103 u109).ext (e112.trans e118)).updT hb119 u125).ext (e128.trans e134)).updT hb135 u141).ext (e144.trans (e147.trans (e150.trans e153)))) (z35.le (bQ hls rfl))) rfl (by kernel_rfl) fun xr157 v155 r157 e156 hw32=>?_)))))
 obtain rfl:=r157
 refine pu (v:= .bool false) rfl (pu (v:= .bool false) rfl (a0 (aI rfl (aN (aD (aA ?_))))))
 have bl158:=z51.own.block
 have oo159:=((((((((((((((z51.ext e54).updT hb55 u61).ext (e64.trans eH)).updT hb71 u77).ext (e80.trans e86)).updT hb87 u93).ext (e96.trans e102)).updT hb103 u109).ext (e112.trans e118)).updT hb119 u125).ext (e128.trans e134)).updT hb135 u141).ext (e144.trans (e147.trans (e150.trans (e153.trans e156)))))).own.mono (show v42.heap.size≤v42.heap.size from (b8 _))
 have bl160:=z83.own.block
 have oo161:=((((((((((z83.ext e86).updT hb87 u93).ext (e96.trans e102)).updT hb103 u109).ext (e112.trans e118)).updT hb119 u125).ext (e128.trans e134)).updT hb135 u141).ext (e144.trans (e147.trans (e150.trans (e153.trans e156)))))).own.mono (show v42.heap.size≤v74.heap.size from (u77.ext (((u61.ext (e48.trans e54) geW_g52).trans e64).trans eH) geW_g68).size)
 have bl162:=z131.own.block
 have oo163:=((((z131.ext e134).updT hb135 u141).ext (e144.trans (e147.trans (e150.trans (e153.trans e156)))))).own.mono (show v42.heap.size≤v122.heap.size from (u125.ext (((u109.ext (((u93.ext (((u77.ext (((u61.ext (e48.trans e54) geW_g52).trans e64).trans eH) geW_g68).trans e80).trans e86) geW_g84).trans e96).trans e102) geW_g100).trans e112).trans e118) geW_g116).size)
 have bl164:=z67.own.block
 have oo165:=((((((((((((z67.ext eH).updT hb71 u77).ext (e80.trans e86)).updT hb87 u93).ext (e96.trans e102)).updT hb103 u109).ext (e112.trans e118)).updT hb119 u125).ext (e128.trans e134)).updT hb135 u141).ext (e144.trans (e147.trans (e150.trans (e153.trans e156)))))).own.mono (show v42.heap.size≤v58.heap.size from (u61.ext (e48.trans e54) geW_g52).size)
 have bl166:=z99.own.block
 have oo167:=((((((((z99.ext e102).updT hb103 u109).ext (e112.trans e118)).updT hb119 u125).ext (e128.trans e134)).updT hb135 u141).ext (e144.trans (e147.trans (e150.trans (e153.trans e156)))))).own.mono (show v42.heap.size≤v90.heap.size from (u93.ext (((u77.ext (((u61.ext (e48.trans e54) geW_g52).trans e64).trans eH) geW_g68).trans e80).trans e86) geW_g84).size)
 have bl168:=z115.own.block
 have oo169:=((((((z115.ext e118).updT hb119 u125).ext (e128.trans e134)).updT hb135 u141).ext (e144.trans (e147.trans (e150.trans (e153.trans e156)))))).own.mono (show v42.heap.size≤v106.heap.size from (u109.ext (((u93.ext (((u77.ext (((u61.ext (e48.trans e54) geW_g52).trans e64).trans eH) geW_g68).trans e80).trans e86) geW_g84).trans e96).trans e102) geW_g100).size)
 have hdis:DkL [⟨A51,n51,c51⟩,⟨A83,n83,c83⟩,⟨A131,n131,c131⟩,⟨A67,n67,c67⟩,⟨A99,n99,c99⟩,⟨A115,n115,c115⟩]:=⟨⟨(mQ bl158 bl160 (aG (aG (aG (aG e54.size u61.size) e64.size) eH.size) u77.size)),(mQ bl158 bl162 (aG (aG (aG (aG (aG (aG (aG (aG (aG (aG (aG (aG (aG e54.size u61.size) e64.size) eH.size) u77.size) e80.size) e86.size) u93.size) e96.size) e102.size) u109.size) e112.size) e118.size) u125.size)),(mQ bl158 bl164 (aG e54.size u61.size)),(mQ bl158 bl166 (aG (aG (aG (aG (aG (aG (aG e54.size u61.size) e64.size) eH.size) u77.size) e80.size) e86.size) u93.size)),(mQ bl158 bl168 (aG (aG (aG (aG (aG (aG (aG (aG (aG (aG e54.size u61.size) e64.size) eH.size) u77.size) e80.size) e86.size) u93.size) e96.size) e102.size) u109.size)),trivial⟩,⟨(mQ bl160 bl162 (aG (aG (aG (aG (aG (aG (aG e86.size u93.size) e96.size) e102.size) u109.size) e112.size) e118.size) u125.size)),(xN bl160 bl164 (aG eH.size u77.size)),(mQ bl160 bl166 (aG e86.size u93.size)),(mQ bl160 bl168 (aG (aG (aG (aG e86.size u93.size) e96.size) e102.size) u109.size)),trivial⟩,⟨(xN bl162 bl164 (aG (aG (aG (aG (aG (aG (aG (aG (aG (aG eH.size u77.size) e80.size) e86.size) u93.size) e96.size) e102.size) u109.size) e112.size) e118.size) u125.size)),(xN bl162 bl166 (aG (aG (aG (aG e102.size u109.size) e112.size) e118.size) u125.size)),(xN bl162 bl168 (aG e118.size u125.size)),trivial⟩,⟨(mQ bl164 bl166 (aG (aG (aG (aG eH.size u77.size) e80.size) e86.size) u93.size)),(mQ bl164 bl168 (aG (aG (aG (aG (aG (aG (aG eH.size u77.size) e80.size) e86.size) u93.size) e96.size) e102.size) u109.size)),trivial⟩,⟨(mQ bl166 bl168 (aG e102.size u109.size)),trivial⟩,trivial,trivial⟩
 have hal0:Al0 v155 v42.heap.size [⟨A51,n51,c51⟩,⟨A83,n83,c83⟩,⟨A131,n131,c131⟩,⟨A67,n67,c67⟩,⟨A99,n99,c99⟩,⟨A115,n115,c115⟩]:=a1w hdis ⟨⟨_,oo159⟩,⟨_,oo161⟩,⟨_,oo163⟩,⟨_,oo165⟩,⟨_,oo167⟩,⟨_,oo169⟩,trivial⟩
 have hlens:∀a,(([⟨A51,n51,c51⟩,⟨A83,n83,c83⟩,⟨A131,n131,c131⟩,⟨A67,n67,c67⟩,⟨A99,n99,c99⟩,⟨A115,n115,c115⟩]:List Lst).getD a Lst.z).n≤1099511620000
  | 0=>(z51.le (bQ hlr rfl))
  | 1=>(z83.le (bQ hlr rfl))
  | 2=>(z131.le (bQ hlr rfl))
  | 3=>(z67.le (bQ hls rfl))
  | 4=>(z99.le (bQ hls rfl))
  | 5=>(z115.le (bQ hlp rfl))
  | _+6=>bW _
 refine a7 (pf g52 1 rfl (aS rfl rfl (aY eM (((((((((((hb60.ext (e64.trans eH)).updN u77 (by omega)).ext (e80.trans e86)).updN u93 (by omega)).ext (e96.trans e102)).updN u109 (by omega)).ext (e112.trans e118)).updN u125 (by omega)).ext (e128.trans e134)).updN u141 (by omega)).ext (e144.trans (e147.trans (e150.trans (e153.trans e156))))) rfl) (pf g84 1 rfl (aS rfl rfl (aY eM (((((((hb92.ext (e96.trans e102)).updN u109 (by omega)).ext (e112.trans e118)).updN u125 (by omega)).ext (e128.trans e134)).updN u141 (by omega)).ext (e144.trans (e147.trans (e150.trans (e153.trans e156))))) rfl) (pf g132 1 rfl (aS rfl rfl (aY eM (hb140.ext (e144.trans (e147.trans (e150.trans (e153.trans e156))))) rfl) (pf g68 1 rfl (aS rfl rfl (aY eM (((((((((hb76.ext (e80.trans e86)).updN u93 (by omega)).ext (e96.trans e102)).updN u109 (by omega)).ext (e112.trans e118)).updN u125 (by omega)).ext (e128.trans e134)).updN u141 (by omega)).ext (e144.trans (e147.trans (e150.trans (e153.trans e156))))) rfl) (pf g100 1 rfl (aS rfl rfl (aY eM (((((hb108.ext (e112.trans e118)).updN u125 (by omega)).ext (e128.trans e134)).updN u141 (by omega)).ext (e144.trans (e147.trans (e150.trans (e153.trans e156))))) rfl) (pf g116 1 rfl (aS rfl rfl (aY eM (((hb124.ext (e128.trans e134)).updN u141 (by omega)).ext (e144.trans (e147.trans (e150.trans (e153.trans e156))))) rfl) (dQ rfl rfl (k:=6) (e:=22) [.slice A51 n51 c51,.slice A83 n83 c83,.slice A131 n131 c131,.slice A67 n67 c67,.slice A99 n99 c99,.slice A115 n115 c115] (fun _=>by kernel_rfl) fun g170 v171 nb=>?_)))))))))))))
 have hb172:=nb.bk
 have e173:=nb.ext
 have geW_g170:v42.heap.size≤g170:=by rw [←nb.at_];exact ((((((u141.ext (((u125.ext (((u109.ext (((u93.ext (((u77.ext (((u61.ext (e48.trans e54) geW_g52).trans e64).trans eH) geW_g68).trans e80).trans e86) geW_g84).trans e96).trans e102) geW_g100).trans e112).trans e118) geW_g116).trans e128).trans e134) geW_g132).trans e144).trans e147).trans e150).trans e153).trans e156).size
 have ge_g170:w.heap.size≤g170:=aG hw9.size geW_g170
 clear nb
 have hw33:=hw32.trans e173
 refine pu (v:= .agg #[.slice (some ⟨g170,0,none⟩) 6 6,S0,S0]) rfl (m5 rfl (z:= .agg #[S0,S0,S0]) (vs:= [S0,S0,S0]) (fun _=>by kernel_rfl) rfl fun g174 v175 nb=>?_)
 have geW_g174:v42.heap.size≤g174:=by rw [←nb.at_];exact (((((((u141.ext (((u125.ext (((u109.ext (((u93.ext (((u77.ext (((u61.ext (e48.trans e54) geW_g52).trans e64).trans eH) geW_g68).trans e80).trans e86) geW_g84).trans e96).trans e102) geW_g100).trans e112).trans e118) geW_g116).trans e128).trans e134) geW_g132).trans e144).trans e147).trans e150).trans e153).trans e156).trans e173).size
 have hb177:=nb.bk
 have ge178:w.heap.size≤g174:=by rw [←nb.at_];exact hw33.size
 have q179:g170<g174:=by rw [←nb.at_];exact hb172.lt
 have e176:=nb.ext
 clear nb
 have hw34:=hw33.trans e176
 refine so a1x hb177 [.slice (some ⟨g170,0,none⟩) 6 6,S0,S0] hw34 ge178 rfl rfl rfl rfl fun v180 hb182 u183 hw35=>(a0 (aA (sr ?_)))
 have hwl:=Own.of_bk ((hb172.ext e176).updN u183 (by omega)) (bq rfl)
 refine dD rfl rfl (vs:= [.pointer (some ⟨g174,0,none⟩)]) (by kernel_rfl) (by decide) (ZP (ls:= [⟨A51,n51,c51⟩,⟨A83,n83,c83⟩,⟨A131,n131,c131⟩,⟨A67,n67,c67⟩,⟨A99,n99,c99⟩,⟨A115,n115,c115⟩]) (lb:=v42.heap.size) hb182 hwl ((hal0.ext (e173.trans e176)).updT hb177 (by decide) u183) (u183.ext ((((((((u141.ext (((u125.ext (((u109.ext (((u93.ext (((u77.ext (((u61.ext (e48.trans e54) geW_g52).trans e64).trans eH) geW_g68).trans e80).trans e86) geW_g84).trans e96).trans e102) geW_g100).trans e112).trans e118) geW_g116).trans e128).trans e134) geW_g132).trans e144).trans e147).trans e150).trans e153).trans e156).trans e173).trans e176) geW_g174).size (bq rfl) hlens) ?_
 rintro _ v185 ⟨rfl,uu186⟩
 refine dE ?_
 have hx187:Ext v42 v185:=uu186.ext (u183.ext ((((((((u141.ext (((u125.ext (((u109.ext (((u93.ext (((u77.ext (((u61.ext (e48.trans e54) geW_g52).trans e64).trans eH) geW_g68).trans e80).trans e86) geW_g84).trans e96).trans e102) geW_g100).trans e112).trans e118) geW_g116).trans e128).trans e134) geW_g132).trans e144).trans e147).trans e150).trans e153).trans e156).trans e173).trans e176) geW_g174) (b8 _)
 have hw10:=hw9.trans hx187
 refine pu (v:= .bool false) rfl (a0 (aI rfl (aN (aD (aA (bE [(2,.pointer (some ⟨g1,0,none⟩)),(3,.pointer (some ⟨g6,0,none⟩)),(5,.float .f64 f),(6,.pointer (some ⟨g20,0,none⟩)),(8,.pointer (some ⟨g36,0,none⟩))] ⟨rfl,rfl,rfl,rfl,rfl,trivial⟩ (a7 (mv 1 rfl (dD rfl rfl (vs:= [.float .f64 f]) (by kernel_rfl) (by decide) (hbw (w:=v185)).2 ?_)))))))))
 rintro _ v188 ⟨xr190,rfl,r190,e189⟩
 refine dE ?_
 have hw11:=hw10.trans e189
 obtain⟨_,_,rfl,⟨s192,A192,n192,c192,rfl,z192⟩,rfl⟩:=r190
 refine mv 1 rfl (pu (v:= .agg #[.bool s192,.slice A192 n192 c192]) rfl (pu (v:= .int .i64 er) rfl (kW [F0,S0] hw11 (hb44.ext (hx187.trans e189)).lt (fun _=>by kernel_rfl) rfl fun g193 v194 hb196 ge197 q198 e195 hw12=>(so bO hb196 [.bool s192,.slice A192 n192 c192] hw12 ge197 rfl rfl rfl rfl fun v199 hb201 u202 hw13=>(mv 1 rfl (a0 (sr (mv 1 rfl (dD rfl rfl (vs:= [.float .f64 f]) (by kernel_rfl) (by decide) (hbq (w:=v199)).2 ?_)))))))))
 rintro _ v204 ⟨xr206,rfl,r206,e205⟩
 refine dE ?_
 have hw14:=hw13.trans e205
 obtain⟨_,_,_,rfl,⟨s208,A208,n208,c208,rfl,z208⟩,rfl,rfl⟩:=r206
 refine mv 1 rfl (pu (v:= .agg #[.bool s208,.slice A208 n208 c208]) rfl (pu (v:= .int .i64 ks) rfl (pu (v:= .int .i64 es) rfl (kW [F0,S0] hw14 (hb201.ext e205).lt (fun _=>by kernel_rfl) rfl fun g209 v210 hb212 ge213 q214 e211 hw15=>(so bO hb212 [.bool s208,.slice A208 n208 c208] hw15 ge213 rfl rfl rfl rfl fun v215 hb217 u218 hw16=>(mv 2 rfl (a0 (sr (lo bO ((hb201.ext (e205.trans e211)).updN u218 (by omega)) [.bool s192,.slice A192 n192 c192] rfl rfl rfl (lo bO ((((((hb28.ext (e32.trans e38)).updN u45 (by omega)).ext (hx187.trans (e189.trans e195))).updN u202 (by omega)).ext (e205.trans e211)).updN u218 (by omega)) [.bool s19,.slice A19 n19 c19] rfl rfl rfl (cl (vs:= [.agg #[.bool s192,.slice A192 n192 c192],.agg #[.bool s19,.slice A19 n19 c19]]) hw16 (pG ((((z192.ext e195).updT hb196 u202).ext (e205.trans e211)).updT hb212 u218) (z192.le (bQ hlr rfl)) ((((((((z19.ext e22).updT hb23 u29).ext (e32.trans e38)).updT hb39 u45).ext (hx187.trans (e189.trans e195))).updT hb196 u202).ext (e205.trans e211)).updT hb212 u218) (z19.le (bQ hlr rfl))) rfl (by kernel_rfl) fun xr222 v220 r222 e221 hw17=>?_)))))))))))
 obtain rfl:=r222
 refine mv 1 rfl (lo bO (hb217.ext e221) [.bool s208,.slice A208 n208 c208] rfl rfl rfl (lo bO (((((hb44.ext (hx187.trans (e189.trans e195))).updN u202 (by omega)).ext (e205.trans e211)).updN u218 (by omega)).ext e221) [.bool s35,.slice A35 n35 c35] rfl rfl rfl (cl (vs:= [.agg #[.bool s208,.slice A208 n208 c208],.agg #[.bool s35,.slice A35 n35 c35]]) hw17 (pG (((z208.ext e211).updT hb212 u218).ext e221) (z208.le (bQ hls rfl)) (((((((z35.ext e38).updT hb39 u45).ext (hx187.trans (e189.trans e195))).updT hb196 u202).ext (e205.trans e211)).updT hb212 u218).ext e221) (z35.le (bQ hls rfl))) rfl (by kernel_rfl) fun xr225 v223 r225 e224 hw18=>?_)))
 obtain rfl:=r225
 refine pu (v:= .bool true) rfl (mv 1 rfl (lo kE (((((((((hb4.ext (e8.trans (e13.trans (e16.trans e22)))).updN u29 (by omega)).ext (e32.trans e38)).updN u45 (by omega)).ext (hx187.trans (e189.trans e195))).updN u202 (by omega)).ext (e205.trans e211)).updN u218 (by omega)).ext (e221.trans e224)) [.int .i64 k,.bool sa,.slice Aa xs.length ca,.bool sb,.slice Ab ys.length cb,.int .u64 f,.slice C m c,.string (a8 bs),.int .i64 nn] rfl rfl rfl (lo kE (((((((((hb9.ext (e13.trans (e16.trans e22))).updN u29 (by omega)).ext (e32.trans e38)).updN u45 (by omega)).ext (hx187.trans (e189.trans e195))).updN u202 (by omega)).ext (e205.trans e211)).updN u218 (by omega)).ext (e221.trans e224)) [.int .i64 pk,.bool psa,.slice PA pan pac,.bool psb,.slice PB pbn pbc,.int .u64 pfl,.slice PC pm pc,.string (a8 pbs),.int .i64 pn] rfl rfl rfl (cl (vs:= [.agg #[.int .i64 k,.bool sa,.slice Aa xs.length ca,.bool sb,.slice Ab ys.length cb,.int .u64 f,.slice C m c,.string (a8 bs),.int .i64 nn],.agg #[.int .i64 pk,.bool psa,.slice PA pan pac,.bool psb,.slice PB pbn pbc,.int .u64 pfl,.slice PC pm pc,.string (a8 pbs),.int .i64 pn]]) hw18 (Z2 (hx.ext hw18) hal (hy.ext hw18) hbl hf64 (hl.ext hw18) hm hbs hlen (hS.ext hw18)) rfl (by kernel_rfl) fun xr228 v226 r228 e227 hw19=>?_))))
 obtain rfl:=r228
 refine pu (v:= .bool true) rfl (mv 1 rfl (lo kE (((((((((hb4.ext (e8.trans (e13.trans (e16.trans e22)))).updN u29 (by omega)).ext (e32.trans e38)).updN u45 (by omega)).ext (hx187.trans (e189.trans e195))).updN u202 (by omega)).ext (e205.trans e211)).updN u218 (by omega)).ext (e221.trans (e224.trans e227))) [.int .i64 k,.bool sa,.slice Aa xs.length ca,.bool sb,.slice Ab ys.length cb,.int .u64 f,.slice C m c,.string (a8 bs),.int .i64 nn] rfl rfl rfl (lo kE (((((((((hb9.ext (e13.trans (e16.trans e22))).updN u29 (by omega)).ext (e32.trans e38)).updN u45 (by omega)).ext (hx187.trans (e189.trans e195))).updN u202 (by omega)).ext (e205.trans e211)).updN u218 (by omega)).ext (e221.trans (e224.trans e227))) [.int .i64 pk,.bool psa,.slice PA pan pac,.bool psb,.slice PB pbn pbc,.int .u64 pfl,.slice PC pm pc,.string (a8 pbs),.int .i64 pn] rfl rfl rfl (cl (vs:= [.agg #[.int .i64 k,.bool sa,.slice Aa xs.length ca,.bool sb,.slice Ab ys.length cb,.int .u64 f,.slice C m c,.string (a8 bs),.int .i64 nn],.agg #[.int .i64 pk,.bool psa,.slice PA pan pac,.bool psb,.slice PB pbn pbc,.int .u64 pfl,.slice PC pm pc,.string (a8 pbs),.int .i64 pn]]) hw19 (YW (hx.ext hw19) hal (hy.ext hw19) hbl hf64 (hl.ext hw19) hm hbs hlen) rfl (by kernel_rfl) fun xr231 v229 r231 e230 hw20=>?_))))
 obtain rfl:=r231
 refine pu (v:= .bool true) rfl (mv 1 rfl (a0 (aM (aL [.bool true] rfl ⟨rfl,trivial⟩ ?_))))
 exact⟨_,rfl,rfl,hw20⟩
theorem XR {w:a6}(h1:AC w us)(h2:AC w vs)(hS:Signs w):aO aF 7 #[.agg us.toArray,.agg vs.toArray] w (AL true w):=by
 obtain⟨k,sa,Aa,na,ca,x,sb,Ab,nb,cb,y,f,C,m,c,fs,bs,nn,rfl,⟨xs,hx,_⟩,la,⟨ys,hy,_⟩,lb,hf,hl,hm,hbs,hlen⟩:=h1
 obtain⟨_,_,_,_,_,_,_,_,_,_,_,_,_,_,_,_,_,_,rfl,_,_,_,_,hpf,_⟩:=h2
 obtain rfl:=hx.len
 obtain rfl:=hy.len
 exact (XQ hx la hy lb hf hl hm hbs hlen hS hpf).mono fun e w' h=>Y7 _ _ h
end
end Go.Proofs.YtkepckmdjncehaaGreatDoor
