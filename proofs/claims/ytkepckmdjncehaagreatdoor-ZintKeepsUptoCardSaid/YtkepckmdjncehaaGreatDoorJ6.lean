/- Parts Keepw, BookI, BookJ, Sxg, BookK, UpT, Zk0, Zk1, Zk2, joined. -/
import Derived.Test.YtkepckmdjncehaaGreatDoorJ5
import Derived.Deep.Slices

open Go renaming Addr → a8, Calls → aQ, Oper → bB, Operand → cG, Program → bV, TypeId → aV, Value → aD, World → a0
open Array renaming replicate → oL
open Bool renaming and_eq_true → dW, or_eq_true → kM
open List renaming all_eq_true → eK, contains_iff_mem → jO, getD_eq_getElem?_getD → bE, getElem?_eq_getElem → bR, getElem?_eq_none → gW, getElem?_eq_some_iff → fS, getElem?_map → iK, getElem?_take → iW, length_append → eN, map_cons → iJ, map_nil → j7, map_toArray → mG, mem_range → gF, range → fI
open Nat renaming le_refl → aX, le_trans → aE, lt_of_lt_of_le → cS, lt_or_ge → gP, mul_one → dK, zero_add → eQ, zero_le → bJ
open Go.Oper renaming upon → kL
open Option renaming map_some → pP
open Option.some renaming inj → iG, injEq → eH
open Or renaming inl → cD, inr → bT
open Go.Region renaming binds → gU, wanted → oE
open Go.Result renaming andThen_ok → eG
open Go.Sem renaming run_bind → cA, run_pure → g0
open Go.Proofs.Tryz renaming prog → aH
open Go.Value renaming slice → oD
namespace Go.Proofs.YtkepckmdjncehaaGreatDoor
set_option maxHeartbeats 8000000
set_option maxRecDepth 20000
variable {A A' Aa Ab B IA L NA WA XA:Option a8}{K a ac b base c ca cap g gx i ic id im j k lb lw m n nc s wc:Nat}{T e t:aV}{cells cs us vs ws:List aD}{dss rl:List (List Nat)}{gs ls:List Lst}{l:Fr}{listed:Array Bool}{ms st xs:List Nat}{o:bB}{ol:List bB}{p:a8}{ps:List (Nat×Nat)}{sa:Bool}{u u0 u1 v:aD}{w w' w0 wt wt':a0}{x y:cG}{zs:List Int}
open Go.RowKit
def RM (b:Nat)(xs:List Nat)(v:aD)(w:a0):Prop:=∃g,v= i9 (some ⟨g,0,none⟩) (xs.length+80) (xs.length+80)∧b≤g∧Bk w g 65 ((xs++eM xs.length).map bC)
theorem UO (hx:Rd w A xs.length ac xs)(hal:xs.length≤1099511627000):aQ aH 59 #[i9 A xs.length ac] w (Gv w (RM w.heap.size xs)):=by
 refine bL Tryz.func59 G (n:=33) G (bq G) (args:= [i9 A xs.length ac]) (bF [(0,i9 A xs.length ac)] ⟨rfl,up⟩ (sr (mv 1 G (a1 (sr (mv 1 G (pu (v:= a9 ((xs.length:Nat):Int)) G (aR G G G ((xs.length+80:Nat):Int) (bN (a:=xs.length) (b:=80) G G) (l6 G (k:=xs.length+80) G G G bS iB G fun o v2 D U e5=>?_)))))))))
 rw [jY] at U
 have p:w.heap.size≤o:=by rw [←D];exact (Ext.refl w).size
 have E:0<ac→∀a,A=some a→a.block≠o:=fun hc a ha=>by have:=(hx).rv.blk a ha hc;omega
 clear D
 have f:=(Ext.refl w).trans e5
 refine mv 1 G (a1 (a7 (sr (mv 1 G (a1 (bI ?_))))))
 refine cU (T:=a0×Nat×List Nat)
  (fun⟨wr,i,l⟩=> [(0,i9 A xs.length ac),(3,i9 (some ⟨o,0,none⟩) (xs.length+80) (xs.length+80)),(4,a9 i)])
  (fun⟨wr,i,l⟩=>wr)
  (fun⟨wr,i,l⟩=>(Ext w wr)∧(Bk wr o 65 (l.map bC))∧(l.length=xs.length+80)∧(i≤xs.length+80)∧(l.take i=(i6 xs).take i)∧(Rd wr A xs.length ac xs))
  (fun⟨wr,i,l⟩=>xs.length+80-i)
  (⟨v2,0,_⟩:a0×Nat×List Nat) ⟨f,U,(List.length_replicate (n:=xs.length+80) (a:=0)),(bJ _),(by rw [List.take_zero,List.take_zero]),(hx.ext e5)⟩ G ⟨rfl,rfl,rfl,up⟩ ?_
 rintro⟨wr,i,l⟩ ⟨f,hb,hl,hi,X,q⟩
 refine cR [(0,i9 A xs.length ac),(3,i9 (some ⟨o,0,none⟩) (xs.length+80) (xs.length+80)),(4,a9 i)] wr G ⟨rfl,rfl,rfl,up⟩ (a7 (a7 ?_))
 by_cases e:i<xs.length+80
 ·refine a6 (mv 2 G (pu (v:= a9 (((xs.length+80):Nat):Int)) G (aA G G G true (dG (a:=i) (b:=xs.length+80) G G) (a1 (aY G (aW (aC (a7 (bI (a7 ?_))))))))))
  by_cases H:i<xs.length
  ·refine a6 (mv 2 G (pu (v:= a9 ((xs.length:Nat):Int)) G (aA G G G true (dG (a:=i) (b:=xs.length) G G) (a1 (aY G ?_)))))
   have ai:xs.getD i 0≤18446744073709551615:=by have:=rN hx.wf i;rw [cC] at this;omega
   refine a6 (mv 4 G ?_)
   obtain⟨p9,aa,ab,_⟩:=(q).at (i:=i) (by omega)
   refine bK G G G bS bM i G p9 aa (aL G G (cT d7 ab) (bK G G G bS bM i G ⟨o,i,none⟩ (dN _ _) ?_))
   have L:=hb
   refine d6 G G G bM G L (gL (by rw [hl];omega)) G ((l.set i (xs.getD i 0)).map bC) (dP _ _ _) fun Z M V _=>?_
   have r:=V.ext f p
   refine aS (bG (aC (a6 (mv 1 G (aR G G G ((i+1:Nat):Int) (bN (a:=i) (b:=1) G G) (mv 1 G (aS (bW (⟨Z,i+1,l.set i (xs.getD i 0)⟩:a0×Nat×List Nat) ⟨r,M,(by rw [List.length_set];exact hl),(by omega),(by have h:=EV hl e X;rw [EW H] at h;exact h),(Rd.updL q V E)⟩ (show xs.length+80-(i+1)<xs.length+80-i by omega) G ⟨rfl,rfl,rfl,up⟩))))))))
  ·refine a6 (mv 2 G (pu (v:= a9 ((xs.length:Nat):Int)) G (aA G G G false (cW (a:=i) (b:=xs.length) G G) (a1 (aN G (a6 (mv 3 G (dF G G (v:= i5 (IntKind.u64.wrap ((i:Nat):Int))) (v':= i5 i) (jC (by first | omega | exact hle64)) (aR G G G ((6510516211317473280+i:Nat):Int) (iD (a:=6510516211317473280) (b:=i) G G) (bK G G G bS bM i G ⟨o,i,none⟩ (dN _ _) ?_))))))))))
   have I:=hb
   refine d6 G G G bM G I (gL (by rw [hl];omega)) G ((l.set i (6510516211317473280+i)).map bC) (dP _ _ _) fun ae F W _=>?_
   have r:=W.ext f p
   refine aS (bG (aC (a6 (mv 1 G (aR G G G ((i+1:Nat):Int) (bN (a:=i) (b:=1) G G) (mv 1 G (aS (bW (⟨ae,i+1,l.set i (6510516211317473280+i)⟩:a0×Nat×List Nat) ⟨r,F,(by rw [List.length_set];exact hl),(by omega),(by have h:=EV hl e X;rw [EX (by omega) e] at h;exact h),(Rd.updL q W E)⟩ (show xs.length+80-(i+1)<xs.length+80-i by omega) G ⟨rfl,rfl,rfl,up⟩))))))))
 ·have Y:i=xs.length+80:=by omega
  have ag:l=i6 xs:=by rw [Y,List.take_of_length_le (by omega),List.take_of_length_le (by rw [zL];exact aX _)] at X;exact X
  refine a6 (mv 2 G (pu (v:= a9 (((xs.length+80):Nat):Int)) G (aA G G G false (cW (a:=i) (b:=xs.length+80) G G) (a1 (aN G (cN (cI (cL (cM (aC (sr (mv 2 G (aS ?_)))))))))))))
  refine aC (aU (aT [i9 (some ⟨o,0,none⟩) (xs.length+80) (xs.length+80)] G ⟨rfl,up⟩ (⟨_,rfl,⟨o,rfl,p,?_⟩,f⟩)))
  have h:=hb
  rw [ag] at h
  exact h
theorem wN {lc:Nat}(hr:Rd w L (xs.length+80) lc (i6 xs))(hx:Rd w A xs.length ac xs)(hal:xs.length≤1099511627000):aQ aH 15 #[i9 L (xs.length+80) lc,i9 A xs.length ac] w (Gv w (Is (no))):=by
 refine bL Tryz.func15 G (n:=47) G (bq G) (args:= [i9 L (xs.length+80) lc,i9 A xs.length ac]) (bF [(0,i9 L (xs.length+80) lc),(1,i9 A xs.length ac)] ⟨rfl,rfl,up⟩ (sr (mv 1 G (a1 (a7 (sr (mv 1 G (pu (v:= a9 (((xs.length+80):Nat):Int)) G (mv 1 G (pu (v:= a9 ((xs.length:Nat):Int)) G (aR G G G ((xs.length+80:Nat):Int) (bN (a:=xs.length) (b:=80) G G) (aA G G G false (k8 (a:=xs.length+80) (b:=xs.length+80) G G) (aS ?_)))))))))))))
 refine aC (aN G (aW (aC (a7 (sr (mv 1 G (a1 (bI ?_))))))))
 refine cU (T:=a0×Nat)
  (fun⟨wr,i⟩=> [(0,i9 L (xs.length+80) lc),(1,i9 A xs.length ac),(5,a9 i)])
  (fun⟨wr,i⟩=>wr)
  (fun⟨wr,i⟩=>(Ext w wr)∧(i≤xs.length+80)∧(Rd wr L (xs.length+80) lc (i6 xs))∧(Rd wr A xs.length ac xs))
  (fun⟨wr,i⟩=>xs.length+80-i)
  (⟨w,0⟩:a0×Nat) ⟨(Ext.refl w),(bJ _),hr,hx⟩ G ⟨rfl,rfl,rfl,up⟩ ?_
 rintro⟨wr,i⟩ ⟨r,hi,h,o⟩
 refine cR [(0,i9 L (xs.length+80) lc),(1,i9 A xs.length ac),(5,a9 i)] wr G ⟨rfl,rfl,rfl,up⟩ (a7 (a7 ?_))
 by_cases E:i<xs.length+80
 ·refine a6 (mv 2 G (pu (v:= a9 (((xs.length+80):Nat):Int)) G (aA G G G true (dG (a:=i) (b:=xs.length+80) G G) (a1 (aY G (aW (aC (a7 (bI (a7 (a7 ?_)))))))))))
  by_cases H:i<xs.length
  ·have V:=EW H
   obtain⟨p1,Y,X,_⟩:=(h).at (i:=i) (by omega)
   obtain⟨p2,aa,W,_⟩:=(o).at (i:=i) (by omega)
   refine eI cQ 15 [] [Is (a9 i),Is (i9 A xs.length ac),Is (a9 ((xs.length:Nat):Int)),Is (no),Is (no),Is (i9 L (xs.length+80) lc),Is (a9 i),Is (.pointer (some p1)),Is (i5 (((i6 xs).getD i 0:Nat):Int)),Is (i9 A xs.length ac),Is (a9 i),Is (.pointer (some p2)),Is (i5 ((xs.getD i 0:Nat):Int)),Is (t9),Is (t9)] [[],[],[1],[0,2],[3],[4],[4],[4,5,6],[4,7],[4],[4],[4,9,10],[4,11],[4,8,12],[4,13]] [[],[],[1],[0,1,2],[0,1,2,3],[0,1,2,3,4],[0,1,2,3,4],[0,1,2,3,4,5,6],[0,1,2,3,4,5,6,7],[0,1,2,3,4],[0,1,2,3,4],[0,1,2,3,4,9,10],[0,1,2,3,4,9,10,11],[0,1,2,3,4,5,6,7,8,9,10,11,12],[0,1,2,3,4,5,6,7,8,9,10,11,12,13]] rfl
    (aJ G G (aF G G ?_) (aJ G G (aF G G ?_) (aJ G G (aF G G ?_) (aJ G G (aF G G ?_) (aJ G G (aF G G ?_) (aJ G G (aF G G ?_) (aJ G G (aF G G ?_) (aJ G G (aF G G ?_) (aJ G G (aF G G ?_) (aJ G G (aF G G ?_) (aJ G G (aF G G ?_) (aJ G G (aF G G ?_) (aJ G G (aF G G ?_) (aJ G G (aF G G ?_) (aJ G G (aF G G ?_) dY))))))))))))))) ?_
   ·exact fun _ _=>aG (mv 1 G (aI G aK G))
   ·exact fun _ _=>aG (mv 1 G (aI G aK G))
   ·exact fun _ _=>dk G G (aG (pu (v:= a9 ((xs.length:Nat):Int)) G (aI G aK G)))
   ·exact fun _ _=>dk G G (dk G G (aG (aA G G G true (dG (a:=i) (b:=xs.length) G G) (aI G aK G))))
   ·exact fun _ _=>dk G G (aG (mv 1 G (aI G aK G)))
   ·exact fun _ _=>dk G G (aG (mv 1 G (aI G aK G)))
   ·exact fun _ _=>dk G G (aG (mv 1 G (aI G aK G)))
   ·exact fun _ _=>dk G G (dk G G (dk G G (aG (bK G G G bS bM i G p1 Y (aI G aK G)))))
   ·exact fun _ Z=>dk G G (dk G G (aG (aL G G (cT d7 (Z.cell X)) (aI G aK G))))
   ·exact fun _ _=>dk G G (aG (mv 1 G (aI G aK G)))
   ·exact fun _ _=>dk G G (aG (mv 1 G (aI G aK G)))
   ·exact fun _ _=>dk G G (dk G G (dk G G (aG (bK G G G bS bM i G p2 aa (aI G aK G)))))
   ·exact fun _ F=>dk G G (dk G G (aG (aL G G (cT d7 (F.cell W)) (aI G aK G))))
   ·exact fun _ _=>dk G G (dk G G (dk G G (aG (aA G G G false (k8 (a:=(i6 xs).getD i 0) (b:=xs.getD i 0) G G) (aI G aK G)))))
   ·exact fun _ _=>dk G G (dk G G (aG (pu (v:= t9) G (aI G aK G))))
   ·intro I f
    have p:=r.trans f
    refine dk G G (dk G G (dk G G (dk G G (dk G G (dk G G (dk G G (dk G G (dk G G (dk G G (dk G G (dk G G (dk G G (dk G G ?_)))))))))))))
    refine dk G G (aG (aS (eB (aC (aN G (aW (aC (sr (mv 2 G (pu (v:= a9 ((xs.length:Nat):Int)) G (aA G G G false (k9 (a:=i) (b:=xs.length) G G) (mv 9 G (pu (v:= t9) G ?_)))))))))))))
    refine a1 (aN G (aW (bG (aC (a6 (mv 1 G (aR G G G ((i+1:Nat):Int) (bN (a:=i) (b:=1) G G) (mv 1 G (aS (bW (⟨I,i+1⟩:a0×Nat) ⟨p,(by omega),(h.ext f),(o.ext f)⟩ (show xs.length+80-(i+1)<xs.length+80-i by omega) G ⟨rfl,rfl,rfl,up⟩))))))))))
  ·have V:(i6 xs).getD i 0=6510516211317473280+i:=EX (by omega) E
   refine eI cQ 15 [] [Is (a9 i),Is (i9 A xs.length ac),Is (a9 ((xs.length:Nat):Int)),Is (t9),Is (t9),Is (undef),Is (undef),Is (undef),Is (undef),Is (undef),Is (undef),Is (undef),Is (undef),Is (undef),Is (t9)] [[],[],[1],[0,2],[3],[4],[4],[4,5,6],[4,7],[4],[4],[4,9,10],[4,11],[4,8,12],[4,13]] [[],[],[1],[0,1,2],[0,1,2,3],[0,1,2,3,4],[0,1,2,3,4],[0,1,2,3,4,5,6],[0,1,2,3,4,5,6,7],[0,1,2,3,4],[0,1,2,3,4],[0,1,2,3,4,9,10],[0,1,2,3,4,9,10,11],[0,1,2,3,4,5,6,7,8,9,10,11,12],[0,1,2,3,4,5,6,7,8,9,10,11,12,13]] rfl
    (aJ G G (aF G G ?_) (aJ G G (aF G G ?_) (aJ G G (aF G G ?_) (aJ G G (aF G G ?_) (aJ G G (aF G G ?_) (aJ G G (aF G G ?_) (aJ G G (aF G G ?_) (aJ G G (aF G G ?_) (aJ G G (aF G G ?_) (aJ G G (aF G G ?_) (aJ G G (aF G G ?_) (aJ G G (aF G G ?_) (aJ G G (aF G G ?_) (aJ G G (aF G G ?_) (aJ G G (aF G G ?_) dY))))))))))))))) ?_
   ·exact fun _ _=>aG (mv 1 G (aI G aK G))
   ·exact fun _ _=>aG (mv 1 G (aI G aK G))
   ·exact fun _ _=>dk G G (aG (pu (v:= a9 ((xs.length:Nat):Int)) G (aI G aK G)))
   ·exact fun _ _=>dk G G (dk G G (aG (aA G G G false (cW (a:=i) (b:=xs.length) G G) (aI G aK G))))
   ·exact fun _ _=>dk G G (aG (mv 1 G (aI G aK G)))
   ·exact fun _ _=>dk G G (aG (mv 1 G (aI G aK G)))
   ·exact fun _ _=>dk G G (aG (mv 1 G (aI G aK G)))
   ·exact fun _ _=>dk G G (dk G G (dk G G (aG (mv 1 G (aI G aK G)))))
   ·exact fun _ _=>dk G G (dk G G (aG (mv 1 G (aI G aK G))))
   ·exact fun _ _=>dk G G (aG (mv 1 G (aI G aK G)))
   ·exact fun _ _=>dk G G (aG (mv 1 G (aI G aK G)))
   ·exact fun _ _=>dk G G (dk G G (dk G G (aG (mv 1 G (aI G aK G)))))
   ·exact fun _ _=>dk G G (dk G G (aG (mv 1 G (aI G aK G))))
   ·exact fun _ _=>dk G G (dk G G (dk G G (aG (mv 1 G (aI G aK G)))))
   ·exact fun _ _=>dk G G (dk G G (aG (pu (v:= t9) G (aI G aK G))))
   ·intro M e
    have p:=r.trans e
    refine dk G G (dk G G (dk G G (dk G G (dk G G (dk G G (dk G G (dk G G (dk G G (dk G G (dk G G (dk G G (dk G G (dk G G ?_)))))))))))))
    refine dk G G (aG (aS (eB (aC (aN G (aW (aC (sr (mv 2 G (pu (v:= a9 ((xs.length:Nat):Int)) G (aA G G G true (fY (a:=i) (b:=xs.length) G G) (mv 3 G ?_))))))))))))
    obtain⟨U,q,D,_⟩:=((h.ext e)).at (i:=i) (by omega)
    refine bK G G G bS bM i G U q (aL G G (cT d7 D) (mv 1 G (dF G G (v:= i5 (IntKind.u64.wrap ((i:Nat):Int))) (v':= i5 i) (jC (by first | omega | exact hle64)) (aR G G G ((6510516211317473280+i:Nat):Int) (iD (a:=6510516211317473280) (b:=i) G G) (aA G G G false (k8 (a:=(i6 xs).getD i 0) (b:=6510516211317473280+i) G G) (pu (v:= t9) G (a1 (aN G (aW (bG (aC (a6 (mv 1 G ?_)))))))))))))
    refine aR G G G ((i+1:Nat):Int) (bN (a:=i) (b:=1) G G) (mv 1 G (aS (bW (⟨M,i+1⟩:a0×Nat) ⟨p,(by omega),(h.ext e),(o.ext e)⟩ (show xs.length+80-(i+1)<xs.length+80-i by omega) G ⟨rfl,rfl,rfl,up⟩)))
 ·refine a6 (mv 2 G (pu (v:= a9 (((xs.length+80):Nat):Int)) G (aA G G G false (cW (a:=i) (b:=xs.length+80) G G) (a1 (aN G (cN (cI (cL (cM (aC (sr (mv 1 G (aS ?_)))))))))))))
  refine aC (aU (aT [no] G ⟨rfl,up⟩ ?_))
  exact⟨_,rfl,rfl,r⟩
structure UpI (lb:Nat)(w w':a0):Prop where
 os:w'.os=w.os
 tape:w'.tape=w.tape
 output:w'.output=w.output
 size:w.heap.size≤w'.heap.size
 low:∀k,k<lb→k<w.heap.size→w'.heap[k]?=w.heap[k]?
 typ:∀(k:Nat) (cs:Array aD) (t:aV) (fr:Nat×Nat),w.heap[k]?=some (.cells cs t fr)→t≠24→w'.heap[k]?=some (.cells cs t fr)
section
variable {lb:Nat}{a b c w w':a0}
theorem UpI.refl (lb:Nat)(w:a0):UpI lb w w:=⟨rfl,rfl,rfl,aX _,fun _ _ _=>rfl,fun _ _ _ _ h _=>h⟩
theorem UpI.trans (h:UpI lb a b)(e:UpI lb b c):UpI lb a c:=
 ⟨e.os.trans h.os,e.tape.trans h.tape,e.output.trans h.output,aE h.size e.size,fun k f hs=>(e.low k f (cS hs h.size)).trans (h.low k f hs),fun k cs t fr o h1=>e.typ k cs t fr (h.typ k cs t fr o h1) h1⟩
theorem UpI.of_ext (lb:Nat)(e:Ext w w'):UpI lb w w':=⟨e.below.os,e.below.tape,e.below.output,e.size,fun k _ hs=>e.below.block k hs,fun _ _ _ _ f _=>e.heap f⟩
theorem UpI.then_ext (h:UpI lb a b)(e:Ext b c):UpI lb a c:=h.trans (UpI.of_ext lb e)
theorem UpI.ext (h:UpI lb w w')(e:Ext a w)(hl:a.heap.size≤lb):Ext a w':=
 ⟨⟨h.os.trans e.below.os,h.tape.trans e.below.tape,h.output.trans e.below.output,aE e.size h.size,fun k f=>(h.low k (cS f hl) (cS f e.size)).trans (e.below.block k f)⟩⟩
theorem UpI.bk (h:UpI lb w w')(hb:Bk w g t vs)(h1:t≠24):Bk w' g t vs:=h.typ g _ _ _ hb h1
theorem UpI.own (h:UpI lb w w')(ho:Own w base t s A n cap vs)(h1:t≠24):Own w' base t s A n cap vs:=by
 rcases ho with ho | ⟨g,cs,f,hb,e,r⟩
 ·exact cD ho
 ·exact bT ⟨g,cs,f,hb,h.bk e h1,r⟩
theorem UpI.ofO (ho:Own w lb 24 s A n cap vs)(u:UpdO A w w'):UpI lb w w':=by
 refine⟨u.by_.os,u.by_.tape,u.by_.output,u.size,fun k o hs=>?_,fun k cs t fr h1 h2=>?_⟩
 ·refine u.by_.block k hs fun e=>?_
  cases A with
  | none=>cases e
  | some p=>
   have e':k=p.block:=iG e
   have:=(ho.block p G).1
   omega
 ·refine u.heap h1 fun p f e=>h2 ?_
  rcases ho with⟨h,_⟩ | ⟨g,cs',q,_,o,_⟩
  ·rw [h] at f;cases f
  ·rw [q] at f;cases f
   simp only at e
   subst e
   unfold Bk at o
   rw [o] at h1
   injection h1 with h1
   injection h1 with _ h1
   exact h1.symm
end
section
variable {lb g:Nat}{T:aV}{us:List aD}
theorem UpI.upd_new {a b c:a0}(h:UpI lb a b)(u:Upd g b c)(hg:a.heap.size≤g)(hlb:lb≤a.heap.size):UpI lb a c:=
 ⟨u.by_.os.trans h.os,u.by_.tape.trans h.tape,u.by_.output.trans h.output,aE h.size u.size,fun k o hs=>(u.by_.block k (cS hs h.size) (fun e=>by injection e with e;omega)).trans (h.low k o hs),
  fun k cs t fr f h1=>by
   have p:k<a.heap.size:=(Array.getElem?_eq_some_iff.1 f).1
   exact u.heap (h.typ k cs t fr f h1) (by omega)⟩
end
theorem sO {t T:Nat}(h:Own w b t s A n c us)(hb:Bk w g T vs)(hT:t≠T):∀p,A=some p→p.block≠g:=fun p f e=>by
 rcases h with⟨h,_⟩ | ⟨g',cs,q,_,o,_⟩
 ·rw [h] at f;cases f
 ·rw [q] at f;cases f
  simp only at e
  subst e
  unfold Bk at o hb
  rw [o] at hb
  injection hb with hb
  injection hb with _ hb
  exact hT hb
theorem QB (h:i+2≤cs.length):i8 cs i [u0,u1]=(cs.set i u0).set (i+1) u1:=by
 induction i generalizing cs with
 | zero=>match cs,h with
  | a::b::r,_=>rfl
 | succ i ih=>match cs,h with
  | a::r,h=>exact congrArg (a:: ·) (ih (cs:=r) (by simp at h;omega))
def Mk (w:a0)(a:Nat)(vs:List aD)(j:Nat):Prop:=∀q,q<j→∃g,vs[q*2]?=some (t9)∧vs[q*2+1]?=some (i9 (some ⟨g,0,none⟩) 1 1)∧Bk w g 65 [bC (eE a q)]
section
variable {w w':a0}{a j k lb i n c:Nat}{vs:List aD}
theorem Mk.ext (h:Mk w a vs j)(e:Ext w w'):Mk w' a vs j:=fun q f=>by
 obtain⟨g,h1,h2,o⟩:=h q f
 exact⟨g,h1,h2,o.ext e⟩
theorem Mk.mono (h:Mk w a vs j)(hk:k≤j):Mk w a vs k:=fun q _=>h q (by omega)
theorem Mk.zero (w:a0)(a:Nat)(vs:List aD):Mk w a vs 0:=fun _ h=>absurd h (Nat.not_lt_zero _)
theorem Mk.updO (h:Mk w a vs j)(ho:Own w lb 24 2 A n c us)(u:UpdO A w w'):Mk w' a vs j:=fun q f=>by
 obtain⟨g,h1,h2,e⟩:=h q f
 exact⟨g,h1,h2,e.updO u (sO ho e (by decide))⟩
theorem Mk.take (h:Mk w a vs j)(hk:j*2≤k):Mk w a (vs.take k) j:=fun q e=>by
 obtain⟨g,h1,h2,f⟩:=h q e
 exact⟨g,by rw [iW,if_pos (by omega)];exact h1,by rw [iW,if_pos (by omega)];exact h2,f⟩
theorem Mk.append (h:Mk w a vs j)(us:List aD):Mk w a (vs++us) j:=fun q e=>by
 obtain⟨g,h1,h2,f⟩:=h q e
 exact⟨g,by rw [List.getElem?_append_left (fS.1 h1).1];exact h1,by rw [List.getElem?_append_left (fS.1 h2).1];exact h2,f⟩
theorem Mk.snoc (h:Mk w a vs j)(hl:vs.length=j*2)(hb:Bk w g 65 [bC (eE a j)]):Mk w a (vs++ [t9,i9 (some ⟨g,0,none⟩) 1 1]) (j+1):=fun q _=>by
 by_cases e:q=j
 ·subst e
  exact⟨g,by rw [List.getElem?_append_right (by omega),show q*2-vs.length=0 by omega];rfl,by rw [List.getElem?_append_right (by omega),show q*2+1-vs.length=1 by omega];rfl,hb⟩
 ·exact h.append _ q (by omega)
theorem Mk.set (h:Mk w a vs j)(hl:j*2+1<vs.length)(hb:Bk w g 65 [bC (eE a j)]):Mk w a ((vs.set (j*2) (t9)).set (j*2+1) (i9 (some ⟨g,0,none⟩) 1 1)) (j+1):=fun q _=>by
 by_cases e:q=j
 ·subst e
  exact⟨g,by rw [List.getElem?_set_ne (by omega),List.getElem?_set_self (by omega)],by rw [List.getElem?_set_self (by rw [List.length_set];exact hl)],hb⟩
 ·obtain⟨o,h1,h2,f⟩:=h q (by omega)
  exact⟨o,by rw [List.getElem?_set_ne (by omega),List.getElem?_set_ne (by omega)];exact h1,by rw [List.getElem?_set_ne (by omega),List.getElem?_set_ne (by omega)];exact h2,f⟩
theorem lU (h:Own w lb 24 2 A n c vs):vs.length=n*2:=h.rv.len
theorem FL (h:Own w lb 24 2 A n c vs)(hi:i<n)(h0:u0.oneCell'=true)(h1:u1.oneCell'=true)(hp:A.map (·.add (i*2))=some p):∃w',(storeVar 24 p (.agg #[u0,u1])).run aH w= .ok () w'∧Own w' lb 24 2 A n c ((vs.set (i*2) u0).set (i*2+1) u1)∧UpdO A w w':=by
 rcases h with⟨_,rfl,_,_⟩ | ⟨g,cs,rfl,hb,r,hn,q,hl,E⟩
 ·omega
 ·rw [pP,eH,iE,eQ] at hp
  subst hp
  have D:i*2+2≤n*2:=by omega
  have o:n*2≤c*2:=Nat.mul_le_mul_right 2 hn
  have e:i8 cs (i*2) [u0,u1]=(cs.set (i*2) u0).set (i*2+1) u1:=QB (by omega)
  obtain⟨w',hr,f,F,_⟩:=fA (P:=aH) (us:= [u0,u1]) (off:=i*2) aB G r (by omega) (by simp [h0,h1]) _ e
  refine⟨w',hr,bT ⟨g,_,rfl,hb,f,hn,q,by rw [List.length_set,List.length_set,hl],?_⟩,F.updO⟩
  rw [List.take_set,List.take_set,E]
end
structure Ai1 (w:a0)(lb:Nat)(ls:List Lst)(i j:Nat):Prop where
 dis:∀a b,a<ls.length→b<ls.length→a≠b→∀p q,(ls.getD a Lst.z).A=some p→(ls.getD b Lst.z).A=some q→p.block≠q.block
 own:∀a,a<ls.length→∃vs:List aD,Own w lb 24 2 (ls.getD a Lst.z).A (ls.getD a Lst.z).n (ls.getD a Lst.z).c vs∧(a<i→Mk w a vs (ls.getD a Lst.z).n)∧(a=i→Mk w a vs j)
section
variable {w w':a0}{lb i j:Nat}{ls:List Lst}
theorem Ai1.ext (h:Ai1 w lb ls i j)(e:Ext w w'):Ai1 w' lb ls i j:=⟨h.dis,fun a o=>by
 obtain⟨vs,h1,h2,f⟩:=h.own a o
 exact⟨vs,h1.ext e,fun hl=>(h2 hl).ext e,fun he=>(f he).ext e⟩⟩
theorem Ai1.next (h:Ai1 w lb ls i j)(hj:(ls.getD i Lst.z).n≤j):Ai1 w lb ls (i+1) 0:=⟨h.dis,fun a o=>by
 obtain⟨vs,h1,h2,f⟩:=h.own a o
 refine⟨vs,h1,fun _=>?_,fun _=>Mk.zero _ _ _⟩
 by_cases e:a=i
 ·subst e;exact (f G).mono hj
 ·exact h2 (by omega)⟩
theorem Ai1.addr (h:Ai1 w lb ls i j)(hi:i<ls.length)(hk:k<(ls.getD i Lst.z).n):∃p,(ls.getD i Lst.z).A.map (·.add (k*2))=some p:=by
 obtain⟨vs,h1,_⟩:=h.own i hi
 have hl:=lU h1
 obtain⟨a,e,_⟩:=h1.rv.get (k*2) (by omega)
 rw [e];exact⟨_,rfl⟩
theorem Ai1.set (h:Ai1 w lb ls i j)(hi:i<ls.length)(hj:j<(ls.getD i Lst.z).n)(hb:Bk w g 65 [bC (eE i j)])(hp:(ls.getD i Lst.z).A.map (·.add (j*2))=some p):∃w',(storeVar 24 p (.agg #[t9,i9 (some ⟨g,0,none⟩) 1 1])).run aH w= .ok () w'∧Ai1 w' lb ls i (j+1)∧UpI lb w w':=by
 obtain⟨vs,h1,h2,E⟩:=h.own i hi
 obtain⟨w',hr,H,f⟩:=FL (u0:= t9) (u1:= i9 (some ⟨g,0,none⟩) 1 1) h1 hj G G hp
 refine⟨w',hr,⟨h.dis,fun a o=>?_⟩,UpI.ofO h1 f⟩
 by_cases e:a=i
 ·subst e
  have hl:=lU h1
  exact⟨_,H,fun h=>absurd h (Nat.lt_irrefl _),fun _=>((E G).updO h1 f).set (by omega) (hb.updO f (sO h1 hb (by decide)))⟩
 ·obtain⟨ys,r,F,_⟩:=h.own a o
  exact⟨ys,r.updO f (fun p q hp D=>h.dis i a hi o (fun e'=>e e'.symm) p q hp D),fun hl=>(F hl).updO h1 f,fun e'=>absurd e' e⟩
end
structure Gi (w:a0)(lb:Nat)(x g:Lst)(i:Nat):Prop where
 ox:∃vs:List aD,Own w lb 24 2 x.A x.n x.c vs∧Mk w i vs x.n
 og:∃vs:List aD,Own w lb 24 2 g.A g.n g.c vs∧Mk w i vs g.n
 le:x.n≤g.n
 rel:(g.A=x.A∧g.c=x.c)∨(∀p q,x.A=some p→g.A=some q→p.block≠q.block)
structure Ai2 (w:a0)(lb:Nat)(ls gs:List Lst):Prop where
 len:gs.length=ls.length
 dis:∀a b,a<ls.length→b<ls.length→a≠b→∀k,lX (ls.getD a Lst.z) (gs.getD a Lst.z) k→¬lX (ls.getD b Lst.z) (gs.getD b Lst.z) k
 gr:∀a,a<ls.length→Gi w lb (ls.getD a Lst.z) (gs.getD a Lst.z) a
section
variable {w w':a0}{lb i:Nat}{ls gs:List Lst}
theorem Ai2.start (h:Ai1 w lb ls ls.length 0):Ai2 w lb ls ls:=by
 refine⟨rfl,fun a b e hb r k h1 h2=>?_,fun a e=>?_⟩
 ·obtain⟨p,f,rfl⟩:=h1
  obtain⟨q,o,D⟩:=h2
  exact h.dis a b e hb r p q (by rcases f with f | f <;> exact f) (by rcases o with o | o <;> exact o) D.symm
 ·obtain⟨vs,h1,h2,_⟩:=h.own a e
  exact⟨⟨vs,h1,h2 e⟩,⟨vs,h1,h2 e⟩,aX _,cD ⟨rfl,rfl⟩⟩
theorem Gi.ext {x g:Lst}(h:Gi w lb x g i)(e:Ext w w'):Gi w' lb x g i:=by
 obtain⟨⟨vs,h1,h2⟩,⟨us,q,p⟩,o,f⟩:=h
 exact⟨⟨vs,h1.ext e,h2.ext e⟩,⟨us,q.ext e,p.ext e⟩,o,f⟩
theorem Ai2.ext (h:Ai2 w lb ls gs)(e:Ext w w'):Ai2 w' lb ls gs:=⟨h.len,h.dis,fun a f=>(h.gr a f).ext e⟩
theorem Ai2.app (h:Ai2 w lb ls gs)(hi:i<ls.length){c' n':Nat}(hn:(gs.getD i Lst.z).n+1=n')(hw:Own w lb 24 2 (gs.getD i Lst.z).A (gs.getD i Lst.z).n (gs.getD i Lst.z).c us)(ho:Own w' lb 24 2 A' n' c' vs)(hm:Mk w' i vs n')(hc:(A'=(gs.getD i Lst.z).A∧c'=(gs.getD i Lst.z).c∧UpdO (gs.getD i Lst.z).A w w')∨(Ext w w'∧∀a',A'=some a'→w.heap.size≤a'.block)):Ai2 w' lb ls (gs.set i ⟨A',n',c'⟩):=by
 have D:i<gs.length:=by rw [h.len];exact hi
 have r:=h.gr i hi
 have F:(ls.getD i Lst.z).n≤n':=by have:=r.le;omega
 rcases hc with⟨rfl,rfl,U⟩ | ⟨he,I⟩
 ·refine⟨by rw [List.length_set];exact h.len,fun a b o hb E k h1 h2=>?_,fun a o=>?_⟩
  ·refine h.dis a b o hb E k ?_ ?_
   ·by_cases e:a=i
    ·subst e;rwa [k5 D] at h1
    ·rwa [k7 e] at h1
   ·by_cases e:b=i
    ·subst e;rwa [k5 D] at h2
    ·rwa [k7 e] at h2
  ·by_cases e:a=i
   ·subst e
    rw [k5 D]
    refine⟨?_,⟨vs,ho,hm⟩,F,r.rel⟩
    rcases r.rel with⟨X,e2⟩ | hd
    ·have H:=ho.take (k:=(ls.getD a Lst.z).n) F
     rw [←X,←e2];exact⟨_,H,(hm.mono F).take (aX _)⟩
    ·obtain⟨xs,h7,h8⟩:=r.ox
     exact⟨xs,h7.updO U (fun p q f L e=>hd q p L f e.symm),h8.updO hw U⟩
   ·rw [k7 e]
    obtain⟨⟨xs,h1,h2⟩,⟨ys,M,H⟩,h5,Z⟩:=h.gr a o
    refine⟨⟨xs,h1.updO U (fun p q f L e'=>?_),h2.updO hw U⟩,⟨ys,M.updO U (fun p q f L e'=>?_),H.updO hw U⟩,h5,Z⟩
    ·exact h.dis i a hi o (fun e''=>e e''.symm) p.block ⟨p,bT f,rfl⟩ ⟨q,cD L,e'.symm⟩
    ·exact h.dis i a hi o (fun e''=>e e''.symm) p.block ⟨p,bT f,rfl⟩ ⟨q,bT L,e'.symm⟩
 ·have old:∀a,a<ls.length→∀k,lX (ls.getD a Lst.z) (gs.getD a Lst.z) k→k<w.heap.size:=fun a o k V=>by
   obtain⟨p,f,rfl⟩:=V
   obtain⟨⟨xs,h1,_⟩,⟨ys,M,_⟩,_⟩:=h.gr a o
   rcases f with f | f
   ·exact (h1.block p f).2
   ·exact (M.block p f).2
  have part:∀a,a<ls.length→∀k,lX (ls.getD a Lst.z) ((gs.set i ⟨A',n',c'⟩).getD a Lst.z) k→lX (ls.getD a Lst.z) (gs.getD a Lst.z) k∨(a=i∧w.heap.size≤k):=fun a o k V=>by
   by_cases e:a=i
   ·subst e
    rw [k5 D] at V
    obtain⟨p,f,rfl⟩:=V
    rcases f with f | f
    ·exact cD ⟨p,cD f,rfl⟩
    ·exact bT ⟨rfl,I p f⟩
   ·rw [k7 e] at V;exact cD V
  refine⟨by rw [List.length_set];exact h.len,fun a b o hb E k h1 h2=>?_,fun a o=>?_⟩
  ·rcases part a o k h1 with M | ⟨Y,M⟩
   ·rcases part b hb k h2 with H | ⟨W,H⟩
    ·exact h.dis a b o hb E k M H
    ·have:=old a o k M;omega
   ·rcases part b hb k h2 with H | ⟨W,H⟩
    ·have:=old b hb k H;omega
    ·exact E (Y.trans W.symm)
  ·by_cases e:a=i
   ·subst e
    rw [k5 D]
    obtain⟨⟨xs,h1,h2⟩,_⟩:=r
    refine⟨⟨xs,h1.ext he,h2.ext he⟩,⟨vs,ho,hm⟩,F,bT fun p q f L e=>?_⟩
    have:=(h1.block p f).2
    have:=I q L
    omega
   ·rw [k7 e]
    exact (h.gr a o).ext he
theorem Gi.at_ {x y:Lst}(h1:Own w lb 24 2 A n c vs)(h2:Mk w i vs n)(hj:j<n):∃p g,A.map (·.add (j*2))=some p∧w.cell? p=some (t9)∧w.cell? (p.add 1)=some (i9 (some ⟨g,0,none⟩) 1 1)∧Bk w g 65 [bC (eE i j)]:=by
 obtain⟨g,q,o,f⟩:=h2 j hj
 have hl:=lU h1
 obtain⟨a,e,h⟩:=h1.rv.get (j*2) (by omega)
 obtain⟨a',ha',hc'⟩:=h1.rv.get (j*2+1) (by omega)
 rw [e] at ha'
 injection ha' with ha'
 subst ha'
 subst e
 refine⟨_,g,rfl,?_,?_,f⟩
 ·rw [h,bE,q];rfl
 ·rw [Go.Deep.add_add,hc',bE,o];rfl
theorem Ai2.atx (h:Ai2 w lb ls gs)(hi:i<ls.length)(hj:j<(ls.getD i Lst.z).n):∃p g,(ls.getD i Lst.z).A.map (·.add (j*2))=some p∧w.cell? p=some (t9)∧w.cell? (p.add 1)=some (i9 (some ⟨g,0,none⟩) 1 1)∧Bk w g 65 [bC (eE i j)]:=by
 obtain⟨vs,h1,h2⟩:=(h.gr i hi).ox
 exact Gi.at_ (x:=Lst.z) (y:=Lst.z) h1 h2 hj
theorem Ai2.atg (h:Ai2 w lb ls gs)(hi:i<ls.length)(hj:j<(gs.getD i Lst.z).n):∃p g,(gs.getD i Lst.z).A.map (·.add (j*2))=some p∧w.cell? p=some (t9)∧w.cell? (p.add 1)=some (i9 (some ⟨g,0,none⟩) 1 1)∧Bk w g 65 [bC (eE i j)]:=by
 obtain⟨vs,h1,h2⟩:=(h.gr i hi).og
 exact Gi.at_ (x:=Lst.z) (y:=Lst.z) h1 h2 hj
end
section
variable {Q:Exit→Act→a0→Prop}{N:Nat}{l:Fr}{w:a0}{ops:Array bB}{rest:List bB}{d:Nat}{ty:aV}{pos:String}{af:Array Edge}{gd:Option (Nat×Bool)}
theorem oP:Tryz.prog.underlying 44=some (.slice 25):=by kernel_rfl
theorem sG (w:a0):(sizeOf 25).run aH w= .ok 1 w:=by kernel_rfl
theorem xG (w:a0):(isAgg 25).run aH w= .ok false w:=by kernel_rfl
theorem GX:(Tryz.prog.info? 25).map (fun i=>(i.zero,i.size,i.bytes))=some (some (i9 none 0 0),1,24):=by kernel_rfl
theorem LI (hw:d5 ops l gd=some true)(hx:bP l x=some (.pointer (some p)))(hy:bP l y=some (.agg #[t9,i9 (some ⟨g,0,none⟩) 1 1]))(h:Ai1 w lb ls i j)(hi:i<ls.length)(hj:j<(ls.getD i Lst.z).n)(hb:Bk w g 65 [bC (eE i j)])(hp:(ls.getD i Lst.z).A.map (·.add (j*2))=some p)(k:∀w',Ai1 w' lb ls i (j+1)→UpI lb w w'→wl aH ops Q N rest l w'):wl aH ops Q N (⟨none,.store 24 x y,ty,pos,af,gd⟩::rest) l w:=by
 obtain⟨w',hr,h2,e⟩:=h.set hi hj hb hp
 exact qA hw hx hy hr (k w' h2 e)
theorem LL {g2:Nat}(hw:d5 ops l gd=some true)(hx:bP l x=some (.slice (gs.getD i Lst.z).A (gs.getD i Lst.z).n (gs.getD i Lst.z).c))(hy:bP l y=some (i9 (some ⟨g2,0,none⟩) 1 c))(h:Ai2 w lb ls gs)(hlb:lb≤w.heap.size)(hi:i<ls.length)(hb:Bk w g 65 [bC (eE i (gs.getD i Lst.z).n)])(hb2:Bk w g2 24 [t9,i9 (some ⟨g,0,none⟩) 1 1])(hm:(gs.getD i Lst.z).n+1≤1099511627776)(hd:d<N)(k:∀A' c' w',Ai2 w' lb ls (gs.set i ⟨A',(gs.getD i Lst.z).n+1,c'⟩)→UpI lb w w'→wl aH ops Q N rest ((d,i9 A' ((gs.getD i Lst.z).n+1) c')::l) w'):wl aH ops Q N (⟨some d,.call {callee:= .builtin .append,args:= #[x,y],argTypes:= #[25,25]},ty,pos,af,gd⟩::rest) l w:=by
 obtain⟨vs,e,o⟩:=(h.gr i hi).og
 obtain⟨A',cap',w',hr,h2,q⟩:=EU (P:=aH) (ty:=ty) fQ GY G (by decide) (by decide) e hlb (m:=1) (c:=c) (news:= [t9,i9 (some ⟨g,0,none⟩) 1 1]) G (fun j u hj=>by
  have r:=(fS.1 hj).1
  rw [iE,eQ,hb2.cell r,bE,hj];rfl) G hm
 have f:=lU e
 have H:Mk w' i (vs++ [t9,i9 (some ⟨g,0,none⟩) 1 1]) ((gs.getD i Lst.z).n+1):=by
  rcases q with⟨_,_,p⟩ | ⟨he,_⟩
  ·exact (o.updO e p).snoc f (hb.updO p (sO e hb (by decide)))
  ·exact (o.ext he).snoc f (hb.ext he)
 have F:=h.app hi G e h2 H q
 have E:UpI lb w w':=by
  rcases q with⟨_,_,p⟩ | ⟨he,_⟩
  ·exact UpI.ofO e p
  ·exact UpI.of_ext lb he
 refine fJ hw hd (fun a' D=>?_) (k A' cap' w' F E)
 unfold execOp
 simp only [resolve,invoke,builtin,cA,g0,eG,mG,iJ,j7,D.ev hx,D.ev hy]
 rw [hr]
 rfl
end
section
variable {w w':a0}{lb i g j:Nat}{ls gs:List Lst}{T:aV}{us:List aD}
theorem Mk.updT (h:Mk w i vs j)(hb:Bk w g T us)(hT:65≠T)(u:Upd g w w'):Mk w' i vs j:=fun q o=>by
 obtain⟨p,h1,h2,f⟩:=h q o
 refine⟨p,h1,h2,f.updN u fun e=>?_⟩
 subst e
 unfold Bk at f hb
 rw [f] at hb
 injection hb with hb
 injection hb with _ hb
 exact hT hb
theorem Gi.updT {x y:Lst}(h:Gi w lb x y i)(hb:Bk w g T us)(hT:65≠T)(hT2:24≠T)(u:Upd g w w'):Gi w' lb x y i:=by
 obtain⟨⟨vs,h1,h2⟩,⟨ws,p,o⟩,f,e⟩:=h
 exact⟨⟨vs,h1.updT hb hT2 u,h2.updT hb hT u⟩,⟨ws,p.updT hb hT2 u,o.updT hb hT u⟩,f,e⟩
theorem Ai2.updT (h:Ai2 w lb ls gs)(hb:Bk w g T us)(hT:65≠T)(hT2:24≠T)(u:Upd g w w'):Ai2 w' lb ls gs:=⟨h.len,h.dis,fun a e=>(h.gr a e).updT hb hT hT2 u⟩
end
theorem RC (h0:w.cell? p=some (t9))(h1:w.cell? (p.add 1)=some (i9 (some ⟨g,0,none⟩) 1 1)):(loadVar 24 p).run aH w= .ok (.agg #[t9,i9 (some ⟨g,0,none⟩) 1 1]) w:=
 sW aB [t9,i9 (some ⟨g,0,none⟩) 1 1] G (fun j hj=>by
  match j,hj with
  | 0,_=>exact h0
  | 1,_=>exact h1)
def UpW (lb:Nat)(w w':a0):Prop:=∀a,Ext a w→a.heap.size≤lb→Ext a w'
section
variable {a b c w w':a0}{lb:Nat}{ms:List Lst}
theorem UpW.refl (lb:Nat)(w:a0):UpW lb w w:=fun _ e _=>e
theorem UpW.trans (h:UpW lb a b)(k:UpW lb b c):UpW lb a c:=fun x e hl=>k x (h x e hl) hl
theorem UpW.then_ext (h:UpW lb a b)(e:Ext b c):UpW lb a c:=fun x k hl=>(h x k hl).trans e
theorem UpU.upw (h:UpU lb w w'):UpW lb w w':=fun _ e hl=>h.ext e hl
theorem UpI.upw (h:UpI lb w w'):UpW lb w w':=fun _ e hl=>h.ext e hl
theorem Ai1.upU (h:Ai1 w lb ms 0 0)(u:UpU lb w w'):Ai1 w' lb ms 0 0:=⟨h.dis,fun a e=>by
 obtain⟨vs,h1,_,_⟩:=h.own a e
 exact⟨vs,u.own h1 (by decide),fun h=>absurd h (Nat.not_lt_zero _),fun _=>Mk.zero _ _ _⟩⟩
end
theorem UF {xn xc nn:Nat}(hB:Bk w g 47 [i9 XA xn xc,i9 WA ls.length wc,i9 NA nn nc])(hW:Own w lw 25 1 WA ls.length wc (ls.map Lst.v))(hal:Ai1 w lb ls 0 0)(hlb:lb≤w.heap.size)(hN:ls.length≤4194304)(hln:∀a,(ls.getD a Lst.z).n≤1099511620000):aQ aH 77 #[a4 g 0] w (fun e w'=>e= .returned (no)∧UpI lb w w'):=by
 refine bL Tryz.func77 G (n:=154) G (bq G) (args:= [a4 g 0]) (bF [(0,a4 g 0)] ⟨rfl,up⟩ (sr (mv 1 G (a1 (a7 (sr (mv 1 G (a1 (bI ?_)))))))))
 refine cU (T:=a0×Nat)
  (fun⟨wr,i⟩=> [(0,a4 g 0),(3,a9 i)])
  (fun⟨wr,i⟩=>wr)
  (fun⟨wr,i⟩=>(UpI lb w wr)∧(Bk wr g 47 [i9 XA xn xc,i9 WA ls.length wc,i9 NA nn nc])∧(Own wr lw 25 1 WA ls.length wc (ls.map Lst.v))∧(Ai1 wr lb ls i 0)∧(i≤ls.length))
  (fun⟨wr,i⟩=>ls.length-i)
  (⟨w,0⟩:a0×Nat) ⟨(UpI.refl lb w),hB,hW,hal,(bJ _)⟩ G ⟨rfl,rfl,up⟩ ?_
 rintro⟨wr,i⟩ ⟨D,hB,hW,hal,hi⟩
 refine cR [(0,a4 g 0),(3,a9 i)] wr G ⟨rfl,rfl,up⟩ (a7 (a7 ?_))
 by_cases ao:i<ls.length
 ·refine a6 (mv 2 G (pf g 0 G (pf g 1 G (aL G G (aP (fun _=>by kernel_rfl) hB G) (pu (v:= a9 ((ls.length:Nat):Int)) G (aA G G G true (dG (a:=i) (b:=ls.length) G G) (a1 (aY G (aW (aC (a7 (bI (a7 ?_)))))))))))))
  have fh:=hln i
  refine a6 (mv 1 G (pf g 0 G (pf g 1 G (aL G G (aP (fun _=>by kernel_rfl) hB G) (mv 1 G ?_)))))
  obtain⟨p1,mz,nl⟩:=(hW).atL (i:=i) (by omega)
  refine bK G G G oP sG i G p1 mz (aL G G (cT xG nl) (mv 1 G (a1 (sr (mv 1 G (a1 (bI ?_)))))))
  refine cU (T:=a0×Nat)
   (fun⟨wr,j⟩=> [(0,a4 g 0),(3,a9 i),(4,i9 ((ls.getD i Lst.z).A) ((ls.getD i Lst.z).n) ((ls.getD i Lst.z).c)),(5,a9 j)])
   (fun⟨wr,j⟩=>wr)
   (fun⟨wr,j⟩=>(UpI lb w wr)∧(Bk wr g 47 [i9 XA xn xc,i9 WA ls.length wc,i9 NA nn nc])∧(Own wr lw 25 1 WA ls.length wc (ls.map Lst.v))∧(Ai1 wr lb ls i j)∧(j≤(ls.getD i Lst.z).n))
   (fun⟨wr,j⟩=>(ls.getD i Lst.z).n-j)
   (⟨wr,0⟩:a0×Nat) ⟨D,hB,hW,hal,(bJ _)⟩ G ⟨rfl,rfl,rfl,rfl,up⟩ ?_
  rintro⟨wr,j⟩ ⟨D,hB,hW,hal,hj⟩
  refine cR [(0,a4 g 0),(3,a9 i),(4,i9 ((ls.getD i Lst.z).A) ((ls.getD i Lst.z).n) ((ls.getD i Lst.z).c)),(5,a9 j)] wr G ⟨rfl,rfl,rfl,rfl,up⟩ (a7 (a7 ?_))
  by_cases ks:j<(ls.getD i Lst.z).n
  ·refine a6 (mv 2 G (pu (v:= a9 (((ls.getD i Lst.z).n:Nat):Int)) G (aA G G G true (dG (a:=j) (b:=(ls.getD i Lst.z).n) G G) (a1 (aY G (aW (aC (a7 (bI (a6 (mv 4 G (d9 G G (vs:= [a9 i,a9 j]) (by kernel_rfl) (by decide) (nX) ?_))))))))))))
   rintro _ v2 ⟨_,rfl,r4,e3⟩
   refine dA ?_
   have V:UpI lb w v2:=D.then_ext e3
   obtain rfl:=r4
   refine fW G G (k:=1) (e:=65) [i5 ((eE i j:Nat):Int)] (fun _=>by kernel_rfl) fun g5 v6 nb=>?_
   have nh:=nb.bk
   have e8:=nb.ext
   clear nb
   have E:UpI lb w v6:=V.then_ext e8
   refine pu (v:= .agg #[F0,i9 (some ⟨g5,0,none⟩) 1 1]) G ?_
   obtain⟨p9,df⟩:=((hal.ext (e3.t e8))).addr ao (k:=j) (by omega)
   refine bK G G G fQ aB.size j G p9 df (LI G G G (hal.ext (e3.t e8)) ao (by omega) nh df fun co dm ai=>?_)
   have f:UpI lb w co:=E.trans ai
   refine aS (bG (aC (a6 (mv 1 G (aR G G G ((j+1:Nat):Int) (bN (a:=j) (b:=1) G G) (mv 1 G (aS (bW (⟨co,j+1⟩:a0×Nat) ⟨f,(ai.bk (hB.ext (e3.t e8)) (by decide)),(ai.own (hW.ext (e3.t e8)) (by decide)),dm,(by omega)⟩ (show (ls.getD i Lst.z).n-(j+1)<(ls.getD i Lst.z).n-j by omega) G ⟨rfl,rfl,rfl,rfl,up⟩))))))))
  ·refine a6 (mv 2 G (pu (v:= a9 (((ls.getD i Lst.z).n:Nat):Int)) G (aA G G G false (cW (a:=j) (b:=(ls.getD i Lst.z).n) G G) (a1 (aN G (cN (cI (cL (cM (bG (aC (a6 (mv 1 G ?_)))))))))))))
   refine aR G G G ((i+1:Nat):Int) (bN (a:=i) (b:=1) G G) (mv 1 G (aS (bW (⟨wr,i+1⟩:a0×Nat) ⟨D,hB,hW,((hal).next (by omega)),(by omega)⟩ (show ls.length-(i+1)<ls.length-i by omega) G ⟨rfl,rfl,up⟩)))
 ·have bz:i=ls.length:=by omega
  rw [bz] at hal
  have ij:=Ai2.start hal
  refine a6 (mv 2 G (pf g 0 G (pf g 1 G (aL G G (aP (fun _=>by kernel_rfl) hB G) (pu (v:= a9 ((ls.length:Nat):Int)) G (aA G G G false (cW (a:=i) (b:=ls.length) G G) (a1 (aN G (cN (cI (cL (cM (aC ?_)))))))))))))
  refine sr (mv 1 G (pf g 0 G (pf g 1 G (aL G G (aP (fun _=>by kernel_rfl) hB G) (pu (v:= a9 ((ls.length:Nat):Int)) G (l6 G (k:=ls.length) G G G oP GX G fun r kc ar go ba=>?_))))))
  have ia:w.heap.size≤r:=by rw [←ar];exact D.size
  have ci:∀p,WA=some p→p.block≠r:=fun p hp=>by have:=((hW).block p hp).2;omega
  have pj:g<r:=by rw [←ar];exact hB.lt
  clear ar
  have V:UpI lb w kc:=D.then_ext ba
  refine mv 1 G (a1 (a7 (sr (mv 1 G (a1 (bI ?_))))))
  refine cU (T:=a0×Nat×List Lst×List aD)
   (fun⟨wr,i,gs,gv⟩=> [(0,a4 g 0),(6,i9 (some ⟨r,0,none⟩) ls.length ls.length),(7,a9 i)])
   (fun⟨wr,i,gs,gv⟩=>wr)
   (fun⟨wr,i,gs,gv⟩=>(UpI lb w wr)∧(Bk wr g 47 [i9 XA xn xc,i9 WA ls.length wc,i9 NA nn nc])∧(Own wr lw 25 1 WA ls.length wc (ls.map Lst.v))∧(Bk wr r 25 gv)∧(gv.length=ls.length)∧(Ai2 wr lb ls gs)∧(i≤ls.length)∧(∀a,i≤a→gs.getD a Lst.z=ls.getD a Lst.z)∧(∀a,a<i→(gs.getD a Lst.z).n=(ls.getD a Lst.z).n+80)∧(∀a,a<i→a<ls.length→gv.getD a undef= .slice (gs.getD a Lst.z).A (gs.getD a Lst.z).n (gs.getD a Lst.z).c))
   (fun⟨wr,i,gs,gv⟩=>ls.length-i)
   (⟨kc,0,ls,_⟩:a0×Nat×List Lst×List aD) ⟨V,(hB.ext ba),(hW.ext ba),go,(List.length_replicate),(ij.ext ba),(bJ _),(fun _ _=>rfl),(fun a ha=>absurd ha (Nat.not_lt_zero _)),(fun a ha=>absurd ha (Nat.not_lt_zero _))⟩ G ⟨rfl,rfl,rfl,up⟩ ?_
  rintro⟨wr,i,gs,gv⟩ ⟨D,hB,hW,hG,mr,hal,hi,gf,cf,cg⟩
  refine cR [(0,a4 g 0),(6,i9 (some ⟨r,0,none⟩) ls.length ls.length),(7,a9 i)] wr G ⟨rfl,rfl,rfl,up⟩ (a7 (a7 ?_))
  by_cases ao:i<ls.length
  ·refine a6 (mv 2 G (pf g 0 G (pf g 1 G (aL G G (aP (fun _=>by kernel_rfl) hB G) (pu (v:= a9 ((ls.length:Nat):Int)) G (aA G G G true (dG (a:=i) (b:=ls.length) G G) (a1 (aY G (aW (aC (a7 (bI (a7 ?_)))))))))))))
   have fh:=hln i
   refine a6 (mv 1 G (pf g 0 G (pf g 1 G (aL G G (aP (fun _=>by kernel_rfl) hB G) (mv 1 G ?_)))))
   obtain⟨fb,kk,kj⟩:=(hW).atL (i:=i) (by omega)
   refine bK G G G oP sG i G fb kk (aL G G (cT xG kj) (mv 1 G (a1 (a7 (a7 ?_)))))
   have cv:=(gf i (aX _)).symm
   refine bF [(0,a4 g 0),(6,i9 (some ⟨r,0,none⟩) ls.length ls.length),(7,a9 i),(51,a9 i),(52,a4 g 0),(53,a4 g 0),(61,a4 g 0),(62,a4 g 1),(63,i9 WA ls.length wc),(64,a9 i),(65,.pointer (some fb)),(66,i9 ((ls.getD i Lst.z).A) ((ls.getD i Lst.z).n) ((ls.getD i Lst.z).c)),(8,i9 ((ls.getD i Lst.z).A) ((ls.getD i Lst.z).n) ((ls.getD i Lst.z).c))] ⟨rfl,rfl,rfl,rfl,rfl,rfl,rfl,rfl,rfl,rfl,rfl,rfl,rfl,up⟩ ?_
   rw [cv]
   refine a6 (mv 1 G (a1 (bI ?_)))
   refine cU (T:=a0×Nat×List Lst)
    (fun⟨wr,j,q⟩=> [(0,a4 g 0),(6,i9 (some ⟨r,0,none⟩) ls.length ls.length),(7,a9 i),(8,i9 ((q.getD i Lst.z).A) ((q.getD i Lst.z).n) ((q.getD i Lst.z).c)),(9,a9 j)])
    (fun⟨wr,j,q⟩=>wr)
    (fun⟨wr,j,q⟩=>(UpI lb w wr)∧(Bk wr g 47 [i9 XA xn xc,i9 WA ls.length wc,i9 NA nn nc])∧(Own wr lw 25 1 WA ls.length wc (ls.map Lst.v))∧(Bk wr r 25 gv)∧(Ai2 wr lb ls q)∧(j≤80)∧(∀a,a≠i→q.getD a Lst.z=gs.getD a Lst.z)∧((q.getD i Lst.z).n=(ls.getD i Lst.z).n+j))
    (fun⟨wr,j,q⟩=>80-j)
    (⟨wr,0,gs⟩:a0×Nat×List Lst) ⟨D,hB,hW,hG,hal,(bJ _),(fun _ _=>rfl),(by rw [cv];rfl)⟩ G ⟨rfl,rfl,rfl,rfl,rfl,up⟩ ?_
   rintro⟨wr,j,q⟩ ⟨D,hB,hW,hG,hal,hj,aw,nt⟩
   refine cR [(0,a4 g 0),(6,i9 (some ⟨r,0,none⟩) ls.length ls.length),(7,a9 i),(8,i9 ((q.getD i Lst.z).A) ((q.getD i Lst.z).n) ((q.getD i Lst.z).c)),(9,a9 j)] wr G ⟨rfl,rfl,rfl,rfl,rfl,up⟩ (a7 (a7 ?_))
   by_cases ks:j<80
   ·refine a6 (mv 1 G (aA G G G true (dG (a:=j) (b:=80) G G) (a1 (aY G (aW (aC (a7 (bI (a6 (mv 3 G (pu (v:= a9 (((q.getD i Lst.z).n:Nat):Int)) G (d9 G G (vs:= [a9 i,a9 (((q.getD i Lst.z).n:Nat):Int)]) (by kernel_rfl) (by decide) (nX) ?_))))))))))))
    rintro _ ni ⟨_,rfl,mw,ah⟩
    refine dA ?_
    have V:UpI lb w ni:=D.then_ext ah
    obtain rfl:=mw
    refine fW G G (k:=1) (e:=65) [i5 ((eE i ((q.getD i Lst.z).n):Nat):Int)] (fun _=>by kernel_rfl) fun av nf nb=>?_
    have jk:=nb.bk
    have aq:=nb.ext
    clear nb
    have E:UpI lb w nf:=V.then_ext aq
    refine pu (v:= .agg #[F0,i9 (some ⟨av,0,none⟩) 1 1]) G (fW G G (k:=1) (e:=24) [F0,i9 (some ⟨av,0,none⟩) 1 1] (fun _=>by kernel_rfl) fun oh nz nb=>?_)
    have lz:=nb.bk
    have ag:=nb.ext
    clear nb
    have f:UpI lb w nz:=E.then_ext ag
    refine LL G G G (hal.ext (ah.t (aq.t ag))) (aE hlb f.size) ao (jk.ext ag) lz (by omega) (by decide) fun aa Z ma iq ab=>?_
    have o:UpI lb w ma:=f.trans ab
    refine mv 1 G (aS (bG (aC ?_)))
    have bm:(q.set i ⟨aa,(q.getD i Lst.z).n+1,Z⟩).getD i Lst.z=(⟨aa,(q.getD i Lst.z).n+1,Z⟩:Lst):=k5 (by rw [hal.len];exact ao)
    refine bF [(0,a4 g 0),(6,i9 (some ⟨r,0,none⟩) ls.length ls.length),(7,a9 i),(8,i9 ((⟨aa,(q.getD i Lst.z).n+1,Z⟩:Lst).A) ((⟨aa,(q.getD i Lst.z).n+1,Z⟩:Lst).n) ((⟨aa,(q.getD i Lst.z).n+1,Z⟩:Lst).c)),(9,a9 j),(72,a9 i),(73,i9 ((q.getD i Lst.z).A) ((q.getD i Lst.z).n) ((q.getD i Lst.z).c)),(74,a9 (((q.getD i Lst.z).n:Nat):Int)),(75,i5 ((eE i ((q.getD i Lst.z).n):Nat):Int)),(76,i9 (some ⟨av,0,none⟩) 1 1),(77,.agg #[F0,i9 (some ⟨av,0,none⟩) 1 1]),(78,i9 (some ⟨oh,0,none⟩) 1 1),(79,i9 aa ((q.getD i Lst.z).n+1) Z)] ⟨rfl,rfl,rfl,rfl,rfl,rfl,rfl,rfl,rfl,rfl,rfl,rfl,rfl,up⟩ ?_
    rw [←bm]
    refine a6 (mv 1 G (aR G G G ((j+1:Nat):Int) (bN (a:=j) (b:=1) G G) (mv 1 G (aS (bW (⟨ma,j+1,q.set i ⟨aa,(q.getD i Lst.z).n+1,Z⟩⟩:a0×Nat×List Lst) ⟨o,(ab.bk (hB.ext (ah.t (aq.t ag))) (by decide)),(ab.own (hW.ext (ah.t (aq.t ag))) (by decide)),(ab.bk (hG.ext (ah.t (aq.t ag))) (by decide)),iq,(by omega),(fun a ha=>(k7 ha).trans (aw a ha)),(by rw [bm];show (q.getD i Lst.z).n+1=_;omega)⟩ (show 80-(j+1)<80-j by omega) G ⟨rfl,rfl,rfl,rfl,rfl,up⟩)))))
   ·have om:j=80:=by omega
    refine a6 (mv 1 G (aA G G G false (cW (a:=j) (b:=80) G G) (a1 (aN G (cN (cI (cL (cM (aC (a6 (mv 3 G (bK G G G oP sG i G ⟨r,i,none⟩ (dN _ _) ?_))))))))))))
    have bt:=hG
    refine d6 G G G kN G bt (by omega) G (gv.set i (i9 ((q.getD i Lst.z).A) ((q.getD i Lst.z).n) ((q.getD i Lst.z).c))) G fun en lv au _=>?_
    have V:UpI lb w en:=D.upd_new au ia hlb
    refine aS (bG (aC (a6 (mv 1 G (aR G G G ((i+1:Nat):Int) (bN (a:=i) (b:=1) G G) (mv 1 G (aS (bW (⟨en,i+1,q,gv.set i (i9 ((q.getD i Lst.z).A) ((q.getD i Lst.z).n) ((q.getD i Lst.z).c))⟩:a0×Nat×List Lst×List aD) ⟨V,(hB.vN au),(hW.upd au ci),lv,(by rw [List.length_set];exact mr),(hal.updT bt (by decide) (by decide) au),(by omega),(fun a ha=>(aw a (by omega)).trans (gf a (by omega))),(fun a ha=>by by_cases e:a=i;(· subst e;rw [nt];omega);(· rw [aw a e];exact cf a (by omega))),(fun a ha hl=>by by_cases e:a=i;(· subst e;rw [k5 (by omega)]);(· rw [k7 e,aw a e];exact cg a (by omega) hl))⟩ (show ls.length-(i+1)<ls.length-i by omega) G ⟨rfl,rfl,rfl,up⟩))))))))
  ·have bz:i=ls.length:=by omega
   rw [bz] at cf cg
   refine a6 (mv 2 G (pf g 0 G (pf g 1 G (aL G G (aP (fun _=>by kernel_rfl) hB G) (pu (v:= a9 ((ls.length:Nat):Int)) G (aA G G G false (cW (a:=i) (b:=ls.length) G G) (a1 (aN G (cN (cI (cL (cM (aC ?_)))))))))))))
   refine a7 (sr (mv 1 G (a1 (bI ?_))))
   refine cU (T:=a0×Nat)
    (fun⟨wr,k⟩=> [(0,a4 g 0),(6,i9 (some ⟨r,0,none⟩) ls.length ls.length),(10,a9 k)])
    (fun⟨wr,k⟩=>wr)
    (fun⟨wr,k⟩=>(UpI lb w wr)∧(Bk wr g 47 [i9 XA xn xc,i9 WA ls.length wc,i9 NA nn nc])∧(Own wr lw 25 1 WA ls.length wc (ls.map Lst.v))∧(Bk wr r 25 gv)∧(Ai2 wr lb ls gs)∧(k≤ls.length))
    (fun⟨wr,k⟩=>ls.length-k)
    (⟨wr,0⟩:a0×Nat) ⟨D,hB,hW,hG,hal,(bJ _)⟩ G ⟨rfl,rfl,rfl,up⟩ ?_
   rintro⟨wr,k⟩ ⟨D,hB,hW,hG,hal,_⟩
   refine cR [(0,a4 g 0),(6,i9 (some ⟨r,0,none⟩) ls.length ls.length),(10,a9 k)] wr G ⟨rfl,rfl,rfl,up⟩ (a7 (a7 ?_))
   by_cases ch:k<ls.length
   ·refine a6 (mv 2 G (pf g 0 G (pf g 1 G (aL G G (aP (fun _=>by kernel_rfl) hB G) (pu (v:= a9 ((ls.length:Nat):Int)) G (aA G G G true (dG (a:=k) (b:=ls.length) G G) (a1 (aY G (aW (aC (a7 (bI (a7 ?_)))))))))))))
    have oi:=hln k
    have oo:=cf k ch
    refine a6 (mv 1 G (pf g 0 G (pf g 1 G (aL G G (aP (fun _=>by kernel_rfl) hB G) (mv 1 G ?_)))))
    obtain⟨mn,cm,ku⟩:=(hW).atL (i:=k) (by omega)
    refine bK G G G oP sG k G mn cm (aL G G (cT xG ku) (mv 1 G (a1 (sr (mv 2 G (bK G G G oP sG k G ⟨r,k,none⟩ (dN _ _) (aL G G (cT xG (by have h:=(hG).cell (i:=k) (by omega);rw [cg k (by omega) (by omega)] at h;exact h)) (mv 1 G (a1 (sr (mv 1 G (a1 (bI ?_)))))))))))))
    refine cU (T:=a0×Nat)
     (fun⟨wr,j⟩=> [(0,a4 g 0),(6,i9 (some ⟨r,0,none⟩) ls.length ls.length),(10,a9 k),(11,i9 ((ls.getD k Lst.z).A) ((ls.getD k Lst.z).n) ((ls.getD k Lst.z).c)),(12,i9 ((gs.getD k Lst.z).A) ((gs.getD k Lst.z).n) ((gs.getD k Lst.z).c)),(13,a9 j)])
     (fun⟨wr,j⟩=>wr)
     (fun⟨wr,j⟩=>(UpI lb w wr)∧(Bk wr g 47 [i9 XA xn xc,i9 WA ls.length wc,i9 NA nn nc])∧(Own wr lw 25 1 WA ls.length wc (ls.map Lst.v))∧(Bk wr r 25 gv)∧(Ai2 wr lb ls gs)∧(j≤(gs.getD k Lst.z).n))
     (fun⟨wr,j⟩=>(gs.getD k Lst.z).n-j)
     (⟨wr,0⟩:a0×Nat) ⟨D,hB,hW,hG,hal,(bJ _)⟩ G ⟨rfl,rfl,rfl,rfl,rfl,rfl,up⟩ ?_
    rintro⟨wr,j⟩ ⟨D,hB,hW,hG,hal,hj⟩
    refine cR [(0,a4 g 0),(6,i9 (some ⟨r,0,none⟩) ls.length ls.length),(10,a9 k),(11,i9 ((ls.getD k Lst.z).A) ((ls.getD k Lst.z).n) ((ls.getD k Lst.z).c)),(12,i9 ((gs.getD k Lst.z).A) ((gs.getD k Lst.z).n) ((gs.getD k Lst.z).c)),(13,a9 j)] wr G ⟨rfl,rfl,rfl,rfl,rfl,rfl,up⟩ (a7 (a7 ?_))
    by_cases ks:j<(gs.getD k Lst.z).n
    ·refine a6 (mv 2 G (pu (v:= a9 (((gs.getD k Lst.z).n:Nat):Int)) G (aA G G G true (dG (a:=j) (b:=(gs.getD k Lst.z).n) G G) (a1 (aY G (aW (aC (a7 (bI (sr (mv 2 G ?_)))))))))))
     obtain⟨nj,M,kd,mb,mf,bv⟩:=(hal).atg ch (j:=j) (by omega)
     refine bK G G G fQ aB.size j G nj kd (aL G G (RC (aK.cell mb) (aK.cell mf)) (jG G (z:= .agg #[F0,S0]) (vs:= [F0,S0]) (fun _=>by kernel_rfl) G fun Y mt nb=>?_))
     have gx_g44:wr.heap.size≤Y:=by rw [←nb.at_];exact aX _
     have oy:M<Y:=by rw [←nb.at_];exact bv.lt
     have pe:r<Y:=by rw [←nb.at_];exact (hG).lt
     have aj:=nb.bk
     have fj:w.heap.size≤Y:=by rw [←nb.at_];exact D.size
     have I:=nb.ext
     clear nb
     have V:UpI lb w mt:=D.then_ext I
     refine yI G G G aB G aj (bq G) G [F0,i9 (some ⟨M,0,none⟩) 1 1] G fun oe bo L _=>?_
     have E:UpI lb w oe:=V.upd_new L fj hlb
     refine a1 (a7 (a7 ?_))
     refine eI cQ 14 [] [Is (a4 Y 1),Is (i9 (some ⟨M,0,none⟩) 1 1),Is (a9 1),Is (t9),Is (t9),Is (a4 Y 1),Is (i9 (some ⟨M,0,none⟩) 1 1),Is (.pointer (some (⟨M,0,none⟩))),Is (i5 ((eE k j:Nat):Int)),Is (a9 k),Is (a9 j),Is (i5 ((eE k j:Nat):Int)),Is (t9),Is (t9)] [[],[0],[1],[2],[3],[4],[4,5],[4,6],[4,7],[4],[4],[4,9,10],[4,8,11],[4,12]] [[],[0],[0,1],[0,1,2],[0,1,2,3],[0,1,2,3,4],[0,1,2,3,4,5],[0,1,2,3,4,5,6],[0,1,2,3,4,5,6,7],[0,1,2,3,4],[0,1,2,3,4],[0,1,2,3,4,9,10],[0,1,2,3,4,5,6,7,8,9,10,11],[0,1,2,3,4,5,6,7,8,9,10,11,12]] rfl
      (aJ G G (aF G G ?_) (aJ G G (aF G G ?_) (aJ G G (aF G G ?_) (aJ G G (aF G G ?_) (aJ G G (aF G G ?_) (aJ G G (aF G G ?_) (aJ G G (aF G G ?_) (aJ G G (aF G G ?_) (aJ G G (aF G G ?_) (aJ G G (aF G G ?_) (aJ G G (aF G G ?_) (aJ G G (aF G G ?_) (aJ G G (aF G G ?_) (aJ G G (aF G G ?_) dY)))))))))))))) ?_
     ·intro my mx
      have f:UpI lb w my:=E.then_ext mx
      refine aG (pf Y 1 G ?_)
      exact aI G aK rfl
     ·intro mo ka
      have f:UpI lb w mo:=E.then_ext ka
      refine dk G G (aG (aL G G (aP (fun _=>by kernel_rfl) (bo.ext ka) G) ?_))
      exact aI G aK rfl
     ·intro oa ny
      have f:UpI lb w oa:=E.then_ext ny
      refine dk G G (aG (pu (v:= a9 1) G ?_))
      exact aI G aK rfl
     ·intro ne nx
      have f:UpI lb w ne:=E.then_ext nx
      refine dk G G (aG (aA G G G false (by decide) ?_))
      exact aI G aK rfl
     ·intro nw mu
      have f:UpI lb w nw:=E.then_ext mu
      refine dk G G (aG (mv 1 G ?_))
      exact aI G aK rfl
     ·intro nu ml
      have f:UpI lb w nu:=E.then_ext ml
      refine dk G G (aG (pf Y 1 G ?_))
      exact aI G aK rfl
     ·intro nk lp
      have f:UpI lb w nk:=E.then_ext lp
      refine dk G G (dk G G (aG (aL G G (aP (fun _=>by kernel_rfl) (bo.ext lp) G) ?_)))
      exact aI G aK rfl
     ·intro el lk
      have f:UpI lb w el:=E.then_ext lk
      refine dk G G (dk G G (aG (bK G G G bS bM 0 G ⟨M,0,none⟩ (dN _ _) ?_ (hj:=(by decide)))))
      exact aI G aK rfl
     ·intro kx bj
      have f:UpI lb w kx:=E.then_ext bj
      refine dk G G (dk G G (aG (aL G G (aP d7 (((bv.ext I).vN L).ext bj) G) ?_)))
      exact aI G aK rfl
     ·intro kt ez
      have f:UpI lb w kt:=E.then_ext ez
      refine dk G G (aG (mv 1 G ?_))
      exact aI G aK rfl
     ·intro ko jh
      have f:UpI lb w ko:=E.then_ext jh
      refine dk G G (aG (mv 1 G ?_))
      exact aI G aK rfl
     ·intro fe kn
      have f:UpI lb w fe:=E.then_ext kn
      refine dk G G (dk G G (dk G G (aG (d9 G G (vs:= [a9 k,a9 j]) (by kernel_rfl) (by decide) (nX) ?_))))
      rintro _ iy ⟨_,rfl,jg,bi⟩
      refine dA ?_
      have o:UpI lb w iy:=f.then_ext bi
      obtain rfl:=jg
      exact aI G bi rfl
     ·intro dt fd
      have f:UpI lb w dt:=E.then_ext fd
      refine dk G G (dk G G (dk G G (aG (aA G G G false (k8 (a:=eE k j) (b:=eE k j) G G) ?_))))
      exact aI G aK rfl
     ·intro iu cj
      have f:UpI lb w iu:=E.then_ext cj
      refine dk G G (dk G G (aG (pu (v:= t9) G ?_)))
      exact aI G aK rfl
     ·intro ky F
      have f:UpI lb w ky:=E.then_ext F
      refine dk G G (dk G G (dk G G (dk G G (dk G G (dk G G (dk G G (dk G G (dk G G (dk G G (dk G G (dk G G (dk G G (dk G G ?_)))))))))))))
      refine aG (aS (eB (aC (aN G (aW (aC (a7 ?_)))))))
      by_cases pd:j<(ls.getD k Lst.z).n
      ·obtain⟨H,U,am,_,ak,ce⟩:=((hal.ext ((L.ext I gx_g44).trans F))).atx ch (j:=j) (by omega)
       refine eI cQ 26 [] [Is (a9 j),Is (i9 ((ls.getD k Lst.z).A) ((ls.getD k Lst.z).n) ((ls.getD k Lst.z).c)),Is (a9 (((ls.getD k Lst.z).n:Nat):Int)),Is (no),Is (no),Is (i9 ((ls.getD k Lst.z).A) ((ls.getD k Lst.z).n) ((ls.getD k Lst.z).c)),Is (a9 j),Is (.pointer (some H)),Is (.pointer (some (H.add 1))),Is (i9 (some ⟨U,0,none⟩) 1 1),Is (a9 1),Is (t9),Is (t9),Is (i9 ((ls.getD k Lst.z).A) ((ls.getD k Lst.z).n) ((ls.getD k Lst.z).c)),Is (a9 j),Is (.pointer (some H)),Is (.pointer (some (H.add 1))),Is (i9 (some ⟨U,0,none⟩) 1 1),Is (.pointer (some (⟨U,0,none⟩))),Is (i5 ((eE k j:Nat):Int)),Is (a9 k),Is (a9 j),Is (i5 ((eE k j:Nat):Int)),Is (t9),Is (t9),Is (t9)] [[],[],[1],[0,2],[3],[4],[4],[4,5,6],[4,7],[4,8],[4,9],[4,10],[4,11],[12],[12],[12,13,14],[12,15],[12,16],[12,17],[12,18],[12],[12],[12,20,21],[12,19,22],[4,12,23],[4,24]] [[],[],[1],[0,1,2],[0,1,2,3],[0,1,2,3,4],[0,1,2,3,4],[0,1,2,3,4,5,6],[0,1,2,3,4,5,6,7],[0,1,2,3,4,5,6,7,8],[0,1,2,3,4,5,6,7,8,9],[0,1,2,3,4,5,6,7,8,9,10],[0,1,2,3,4,5,6,7,8,9,10,11],[0,1,2,3,4,5,6,7,8,9,10,11,12],[0,1,2,3,4,5,6,7,8,9,10,11,12],[0,1,2,3,4,5,6,7,8,9,10,11,12,13,14],[0,1,2,3,4,5,6,7,8,9,10,11,12,13,14,15],[0,1,2,3,4,5,6,7,8,9,10,11,12,13,14,15,16],[0,1,2,3,4,5,6,7,8,9,10,11,12,13,14,15,16,17],[0,1,2,3,4,5,6,7,8,9,10,11,12,13,14,15,16,17,18],[0,1,2,3,4,5,6,7,8,9,10,11,12],[0,1,2,3,4,5,6,7,8,9,10,11,12],[0,1,2,3,4,5,6,7,8,9,10,11,12,20,21],[0,1,2,3,4,5,6,7,8,9,10,11,12,13,14,15,16,17,18,19,20,21,22],[0,1,2,3,4,5,6,7,8,9,10,11,12,13,14,15,16,17,18,19,20,21,22,23],[0,1,2,3,4,5,6,7,8,9,10,11,12,13,14,15,16,17,18,19,20,21,22,23,24]] rfl
        (aJ G G (aF G G ?_) (aJ G G (aF G G ?_) (aJ G G (aF G G ?_) (aJ G G (aF G G ?_) (aJ G G (aF G G ?_) (aJ G G (aF G G ?_) (aJ G G (aF G G ?_) (aJ G G (aF G G ?_) (aJ G G (aF G G ?_) (aJ G G (aF G G ?_) (aJ G G (aF G G ?_) (aJ G G (aF G G ?_) (aJ G G (aF G G ?_) (aJ G G (aF G G ?_) (aJ G G (aF G G ?_) (aJ G G (aF G G ?_) (aJ G G (aF G G ?_) (aJ G G (aF G G ?_) (aJ G G (aF G G ?_) (aJ G G (aF G G ?_) (aJ G G (aF G G ?_) (aJ G G (aF G G ?_) (aJ G G (aF G G ?_) (aJ G G (aF G G ?_) (aJ G G (aF G G ?_) (aJ G G (aF G G ?_) dY)))))))))))))))))))))))))) ?_
       ·intro ke dg
        have o:UpI lb w ke:=f.then_ext dg
        refine aG (mv 1 G ?_)
        exact aI G aK rfl
       ·intro jp jd
        have o:UpI lb w jp:=f.then_ext jd
        refine aG (mv 1 G ?_)
        exact aI G aK rfl
       ·intro eh dh
        have o:UpI lb w eh:=f.then_ext dh
        refine dk G G (aG (pu (v:= a9 (((ls.getD k Lst.z).n:Nat):Int)) G ?_))
        exact aI G aK rfl
       ·intro fc jq
        have o:UpI lb w fc:=f.then_ext jq
        refine dk G G (dk G G (aG (aA G G G true (dG (a:=j) (b:=(ls.getD k Lst.z).n) G G) ?_)))
        exact aI G aK rfl
       ·intro jr kb
        have o:UpI lb w jr:=f.then_ext kb
        refine dk G G (aG (mv 1 G ?_))
        exact aI G aK rfl
       ·intro ix kw
        have o:UpI lb w ix:=f.then_ext kw
        refine dk G G (aG (mv 1 G ?_))
        exact aI G aK rfl
       ·intro ju lu
        have o:UpI lb w ju:=f.then_ext lu
        refine dk G G (aG (mv 1 G ?_))
        exact aI G aK rfl
       ·intro ej ft
        have o:UpI lb w ej:=f.then_ext ft
        refine dk G G (dk G G (dk G G (aG (bK G G G fQ aB.size j G H am ?_))))
        exact aI G aK rfl
       ·intro fk lg
        have o:UpI lb w fk:=f.then_ext lg
        refine dk G G (dk G G (aG (pu (v:= .pointer (some (H.add 1))) G ?_)))
        exact aI G aK rfl
       ·intro ir bh
        have o:UpI lb w ir:=f.then_ext bh
        refine dk G G (dk G G (aG (aL G G (cT (fun _=>by kernel_rfl) (bh.cell ak)) ?_)))
        exact aI G aK rfl
       ·intro ep dd
        have o:UpI lb w ep:=f.then_ext dd
        refine dk G G (dk G G (aG (pu (v:= a9 1) G ?_)))
        exact aI G aK rfl
       ·intro ie gj
        have o:UpI lb w ie:=f.then_ext gj
        refine dk G G (dk G G (aG (aA G G G false (by decide) ?_)))
        exact aI G aK rfl
       ·intro jb ib
        have o:UpI lb w jb:=f.then_ext ib
        refine dk G G (dk G G (aG (mv 1 G ?_)))
        exact aI G aK rfl
       ·intro gi iz
        have o:UpI lb w gi:=f.then_ext iz
        refine dk G G (aG (mv 1 G ?_))
        exact aI G aK rfl
       ·intro fq fa
        have o:UpI lb w fq:=f.then_ext fa
        refine dk G G (aG (mv 1 G ?_))
        exact aI G aK rfl
       ·intro jt fx
        have o:UpI lb w jt:=f.then_ext fx
        refine dk G G (dk G G (dk G G (aG (bK G G G fQ aB.size j G H am ?_))))
        exact aI G aK rfl
       ·intro mc il
        have o:UpI lb w mc:=f.then_ext il
        refine dk G G (dk G G (aG (pu (v:= .pointer (some (H.add 1))) G ?_)))
        exact aI G aK rfl
       ·intro du bw
        have o:UpI lb w du:=f.then_ext bw
        refine dk G G (dk G G (aG (aL G G (cT (fun _=>by kernel_rfl) (bw.cell ak)) ?_)))
        exact aI G aK rfl
       ·intro cx fm
        have o:UpI lb w cx:=f.then_ext fm
        refine dk G G (dk G G (aG (bK G G G bS bM 0 G ⟨U,0,none⟩ (dN _ _) ?_ (hj:=(by decide)))))
        exact aI G aK rfl
       ·intro fv bg
        have o:UpI lb w fv:=f.then_ext bg
        refine dk G G (dk G G (aG (aL G G (aP d7 (ce.ext bg) G) ?_)))
        exact aI G aK rfl
       ·intro ei ey
        have o:UpI lb w ei:=f.then_ext ey
        refine dk G G (aG (mv 1 G ?_))
        exact aI G aK rfl
       ·intro fg dz
        have o:UpI lb w fg:=f.then_ext dz
        refine dk G G (aG (mv 1 G ?_))
        exact aI G aK rfl
       ·intro ll ew
        have o:UpI lb w ll:=f.then_ext ew
        refine dk G G (dk G G (dk G G (aG (d9 G G (vs:= [a9 k,a9 j]) (by kernel_rfl) (by decide) (nX) ?_))))
        rintro _ ef ⟨_,rfl,gk,bf⟩
        refine dA ?_
        have oz:UpI lb w ef:=o.then_ext bf
        obtain rfl:=gk
        exact aI G bf rfl
       ·intro kv mh
        have o:UpI lb w kv:=f.then_ext mh
        refine dk G G (dk G G (dk G G (aG (aA G G G false (k8 (a:=eE k j) (b:=eE k j) G G) ?_))))
        exact aI G aK rfl
       ·intro jj io
        have o:UpI lb w jj:=f.then_ext io
        refine dk G G (dk G G (dk G G (aG (pu (v:= t9) G ?_))))
        exact aI G aK rfl
       ·intro ct jx
        have o:UpI lb w ct:=f.then_ext jx
        refine dk G G (dk G G (aG (pu (v:= t9) G ?_)))
        exact aI G aK rfl
       ·intro bd W
        have o:UpI lb w bd:=f.then_ext W
        refine dk G G (dk G G (dk G G (dk G G (dk G G (dk G G (dk G G (dk G G (dk G G (dk G G (dk G G (dk G G (dk G G (dk G G ?_)))))))))))))
        refine dk G G (dk G G (dk G G (dk G G (dk G G (dk G G (dk G G (dk G G (dk G G (dk G G (dk G G (dk G G (aG (aS ?_)))))))))))))
        refine eB (aC (aN G (aW (bG (aC (a6 (mv 1 G (aR G G G ((j+1:Nat):Int) (bN (a:=j) (b:=1) G G) (mv 1 G (aS (bW (⟨bd,j+1⟩:a0×Nat) ⟨o,(((hB.ext I).vN L).ext (F.t W)),(((hW.ext I).updT aj (by decide) L).ext (F.t W)),(((hG.ext I).vN L).ext (F.t W)),(hal.ext (((L.ext I gx_g44).trans F).trans W)),(by omega)⟩ (show (gs.getD k Lst.z).n-(j+1)<(gs.getD k Lst.z).n-j by omega) G ⟨rfl,rfl,rfl,rfl,rfl,rfl,up⟩)))))))))))
      ·refine eI cQ 26 [] [Is (a9 j),Is (i9 ((ls.getD k Lst.z).A) ((ls.getD k Lst.z).n) ((ls.getD k Lst.z).c)),Is (a9 (((ls.getD k Lst.z).n:Nat):Int)),Is (t9),Is (t9),Is (undef),Is (undef),Is (undef),Is (undef),Is (undef),Is (undef),Is (undef),Is (undef),Is (undef),Is (undef),Is (undef),Is (undef),Is (undef),Is (undef),Is (undef),Is (undef),Is (undef),Is (undef),Is (undef),Is (undef),Is (t9)] [[],[],[1],[0,2],[3],[4],[4],[4,5,6],[4,7],[4,8],[4,9],[4,10],[4,11],[12],[12],[12,13,14],[12,15],[12,16],[12,17],[12,18],[12],[12],[12,20,21],[12,19,22],[4,12,23],[4,24]] [[],[],[1],[0,1,2],[0,1,2,3],[0,1,2,3,4],[0,1,2,3,4],[0,1,2,3,4,5,6],[0,1,2,3,4,5,6,7],[0,1,2,3,4,5,6,7,8],[0,1,2,3,4,5,6,7,8,9],[0,1,2,3,4,5,6,7,8,9,10],[0,1,2,3,4,5,6,7,8,9,10,11],[0,1,2,3,4,5,6,7,8,9,10,11,12],[0,1,2,3,4,5,6,7,8,9,10,11,12],[0,1,2,3,4,5,6,7,8,9,10,11,12,13,14],[0,1,2,3,4,5,6,7,8,9,10,11,12,13,14,15],[0,1,2,3,4,5,6,7,8,9,10,11,12,13,14,15,16],[0,1,2,3,4,5,6,7,8,9,10,11,12,13,14,15,16,17],[0,1,2,3,4,5,6,7,8,9,10,11,12,13,14,15,16,17,18],[0,1,2,3,4,5,6,7,8,9,10,11,12],[0,1,2,3,4,5,6,7,8,9,10,11,12],[0,1,2,3,4,5,6,7,8,9,10,11,12,20,21],[0,1,2,3,4,5,6,7,8,9,10,11,12,13,14,15,16,17,18,19,20,21,22],[0,1,2,3,4,5,6,7,8,9,10,11,12,13,14,15,16,17,18,19,20,21,22,23],[0,1,2,3,4,5,6,7,8,9,10,11,12,13,14,15,16,17,18,19,20,21,22,23,24]] rfl
        (aJ G G (aF G G ?_) (aJ G G (aF G G ?_) (aJ G G (aF G G ?_) (aJ G G (aF G G ?_) (aJ G G (aF G G ?_) (aJ G G (aF G G ?_) (aJ G G (aF G G ?_) (aJ G G (aF G G ?_) (aJ G G (aF G G ?_) (aJ G G (aF G G ?_) (aJ G G (aF G G ?_) (aJ G G (aF G G ?_) (aJ G G (aF G G ?_) (aJ G G (aF G G ?_) (aJ G G (aF G G ?_) (aJ G G (aF G G ?_) (aJ G G (aF G G ?_) (aJ G G (aF G G ?_) (aJ G G (aF G G ?_) (aJ G G (aF G G ?_) (aJ G G (aF G G ?_) (aJ G G (aF G G ?_) (aJ G G (aF G G ?_) (aJ G G (aF G G ?_) (aJ G G (aF G G ?_) (aJ G G (aF G G ?_) dY)))))))))))))))))))))))))) ?_
       ·intro fi lm
        have o:UpI lb w fi:=f.then_ext lm
        refine aG (mv 1 G ?_)
        exact aI G aK rfl
       ·intro cu gy
        have o:UpI lb w cu:=f.then_ext gy
        refine aG (mv 1 G ?_)
        exact aI G aK rfl
       ·intro je jw
        have o:UpI lb w je:=f.then_ext jw
        refine dk G G (aG (pu (v:= a9 (((ls.getD k Lst.z).n:Nat):Int)) G ?_))
        exact aI G aK rfl
       ·intro dw jl
        have o:UpI lb w dw:=f.then_ext jl
        refine dk G G (dk G G (aG (aA G G G false (cW (a:=j) (b:=(ls.getD k Lst.z).n) G G) ?_)))
        exact aI G aK rfl
       ·intro ki fz
        have o:UpI lb w ki:=f.then_ext fz
        refine dk G G (aG (mv 1 G ?_))
        exact aI G aK rfl
       ·intro em fp
        have o:UpI lb w em:=f.then_ext fp
        refine dk G G (aG (mv 1 G ?_))
        exact aI G aK rfl
       ·intro ck kp
        have o:UpI lb w ck:=f.then_ext kp
        refine dk G G (aG (mv 1 G ?_))
        exact aI G aK rfl
       ·intro jm md
        have o:UpI lb w jm:=f.then_ext md
        refine dk G G (dk G G (dk G G (aG (mv 1 G ?_))))
        exact aI G aK rfl
       ·intro kz kq
        have o:UpI lb w kz:=f.then_ext kq
        refine dk G G (dk G G (aG (mv 1 G ?_)))
        exact aI G aK rfl
       ·intro ee me
        have o:UpI lb w ee:=f.then_ext me
        refine dk G G (dk G G (aG (mv 1 G ?_)))
        exact aI G aK rfl
       ·intro mi fy
        have o:UpI lb w mi:=f.then_ext fy
        refine dk G G (dk G G (aG (mv 1 G ?_)))
        exact aI G aK rfl
       ·intro jn jz
        have o:UpI lb w jn:=f.then_ext jz
        refine dk G G (dk G G (aG (mv 1 G ?_)))
        exact aI G aK rfl
       ·intro dx ig
        have o:UpI lb w dx:=f.then_ext ig
        refine dk G G (dk G G (aG (mv 1 G ?_)))
        exact aI G aK rfl
       ·intro dy fw
        have o:UpI lb w dy:=f.then_ext fw
        refine dk G G (aG (mv 1 G ?_))
        exact aI G aK rfl
       ·intro kr mj
        have o:UpI lb w kr:=f.then_ext mj
        refine dk G G (aG (mv 1 G ?_))
        exact aI G aK rfl
       ·intro lf jo
        have o:UpI lb w lf:=f.then_ext jo
        refine dk G G (dk G G (dk G G (aG (mv 1 G ?_))))
        exact aI G aK rfl
       ·intro mg ge
        have o:UpI lb w mg:=f.then_ext ge
        refine dk G G (dk G G (aG (mv 1 G ?_)))
        exact aI G aK rfl
       ·intro lh ji
        have o:UpI lb w lh:=f.then_ext ji
        refine dk G G (dk G G (aG (mv 1 G ?_)))
        exact aI G aK rfl
       ·intro jv ik
        have o:UpI lb w jv:=f.then_ext ik
        refine dk G G (dk G G (aG (mv 1 G ?_)))
        exact aI G aK rfl
       ·intro lj dl
        have o:UpI lb w lj:=f.then_ext dl
        refine dk G G (dk G G (aG (mv 1 G ?_)))
        exact aI G aK rfl
       ·intro ea kf
        have o:UpI lb w ea:=f.then_ext kf
        refine dk G G (aG (mv 1 G ?_))
        exact aI G aK rfl
       ·intro iw dr
        have o:UpI lb w iw:=f.then_ext dr
        refine dk G G (aG (mv 1 G ?_))
        exact aI G aK rfl
       ·intro fs jy
        have o:UpI lb w fs:=f.then_ext jy
        refine dk G G (dk G G (dk G G (aG (mv 1 G ?_))))
        exact aI G aK rfl
       ·intro fo gg
        have o:UpI lb w fo:=f.then_ext gg
        refine dk G G (dk G G (dk G G (aG (mv 1 G ?_))))
        exact aI G aK rfl
       ·intro ja eg
        have o:UpI lb w ja:=f.then_ext eg
        refine dk G G (dk G G (dk G G (aG (mv 1 G ?_))))
        exact aI G aK rfl
       ·intro jc jf
        have o:UpI lb w jc:=f.then_ext jf
        refine dk G G (dk G G (aG (pu (v:= t9) G ?_)))
        exact aI G aK rfl
       ·intro bu X
        have o:UpI lb w bu:=f.then_ext X
        refine dk G G (dk G G (dk G G (dk G G (dk G G (dk G G (dk G G (dk G G (dk G G (dk G G (dk G G (dk G G (dk G G (dk G G ?_)))))))))))))
        refine dk G G (dk G G (dk G G (dk G G (dk G G (dk G G (dk G G (dk G G (dk G G (dk G G (dk G G (dk G G (aG (aS ?_)))))))))))))
        refine eB (aC (aN G (aW (bG (aC (a6 (mv 1 G (aR G G G ((j+1:Nat):Int) (bN (a:=j) (b:=1) G G) (mv 1 G (aS (bW (⟨bu,j+1⟩:a0×Nat) ⟨o,(((hB.ext I).vN L).ext (F.t X)),(((hW.ext I).updT aj (by decide) L).ext (F.t X)),(((hG.ext I).vN L).ext (F.t X)),(hal.ext (((L.ext I gx_g44).trans F).trans X)),(by omega)⟩ (show (gs.getD k Lst.z).n-(j+1)<(gs.getD k Lst.z).n-j by omega) G ⟨rfl,rfl,rfl,rfl,rfl,rfl,up⟩)))))))))))
    ·refine a6 (mv 2 G (pu (v:= a9 (((gs.getD k Lst.z).n:Nat):Int)) G (aA G G G false (cW (a:=j) (b:=(gs.getD k Lst.z).n) G G) (a1 (aN G (cN (cI (cL (cM (bG (aC (a6 (mv 1 G ?_)))))))))))))
     refine aR G G G ((k+1:Nat):Int) (bN (a:=k) (b:=1) G G) (mv 1 G (aS (bW (⟨wr,k+1⟩:a0×Nat) ⟨D,hB,hW,hG,hal,(by omega)⟩ (show ls.length-(k+1)<ls.length-k by omega) G ⟨rfl,rfl,rfl,up⟩)))
   ·refine a6 (mv 2 G (pf g 0 G (pf g 1 G (aL G G (aP (fun _=>by kernel_rfl) hB G) (pu (v:= a9 ((ls.length:Nat):Int)) G (aA G G G false (cW (a:=k) (b:=ls.length) G G) (a1 (aN G (cN (cI (cL (cM (aC ?_)))))))))))))
    refine sr (mv 1 G (a1 (aU (aT [no] G ⟨rfl,up⟩ ?_))))
    exact⟨rfl,D⟩
theorem TB {nm:Nat}(hB:Bk w g 47 [i9 WA ls.length wc,i9 IA im ic,i9 NA nm nc])(hW:Own w lw 22 1 WA ls.length wc (ls.map Lst.v))(hal:Al0 w lb ls)(hlb:lb≤w.heap.size)(hN:ls.length≤4194304)(hln:∀a,(ls.getD a Lst.z).n≤1099511620000):aQ aH 76 #[a4 g 0] w (fun e w'=>e= .returned (no)∧UpU lb w w'):=by
 refine bL Tryz.func76 G (n:=99) G (bq G) (args:= [a4 g 0]) (bF [(0,a4 g 0)] ⟨rfl,up⟩ (sr (mv 1 G (a1 (a7 (sr (mv 1 G (a1 (bI ?_)))))))))
 refine cU (T:=a0×Nat)
  (fun⟨wr,i⟩=> [(0,a4 g 0),(3,a9 i)])
  (fun⟨wr,i⟩=>wr)
  (fun⟨wr,i⟩=>(UpU lb w wr)∧(Bk wr g 47 [i9 WA ls.length wc,i9 IA im ic,i9 NA nm nc])∧(Own wr lw 22 1 WA ls.length wc (ls.map Lst.v))∧(Al1 wr lb ls i 0)∧(i≤ls.length))
  (fun⟨wr,i⟩=>ls.length-i)
  (⟨w,0⟩:a0×Nat) ⟨(UpU.refl lb w),hB,hW,hal,(bJ _)⟩ G ⟨rfl,rfl,up⟩ ?_
 rintro⟨wr,i⟩ ⟨o,hB,hW,hal,hi⟩
 refine cR [(0,a4 g 0),(3,a9 i)] wr G ⟨rfl,rfl,up⟩ (a7 (a7 ?_))
 by_cases L:i<ls.length
 ·refine a6 (mv 2 G (pf g 0 G (pf g 0 G (aL G G (aP (fun _=>by kernel_rfl) hB G) (pu (v:= a9 ((ls.length:Nat):Int)) G (aA G G G true (dG (a:=i) (b:=ls.length) G G) (a1 (aY G (aW (aC (a7 (bI (a7 ?_)))))))))))))
  have bi:=hln i
  refine a6 (mv 1 G (pf g 0 G (pf g 0 G (aL G G (aP (fun _=>by kernel_rfl) hB G) (mv 1 G ?_)))))
  obtain⟨p1,cx,dt⟩:=(hW).atL (i:=i) (by omega)
  refine bK G G G kE kN i G p1 cx (aL G G (cT oB dt) (mv 1 G (a1 (sr (mv 1 G (a1 (bI ?_)))))))
  refine cU (T:=a0×Nat)
   (fun⟨wr,j⟩=> [(0,a4 g 0),(3,a9 i),(4,i9 ((ls.getD i Lst.z).A) ((ls.getD i Lst.z).n) ((ls.getD i Lst.z).c)),(5,a9 j)])
   (fun⟨wr,j⟩=>wr)
   (fun⟨wr,j⟩=>(UpU lb w wr)∧(Bk wr g 47 [i9 WA ls.length wc,i9 IA im ic,i9 NA nm nc])∧(Own wr lw 22 1 WA ls.length wc (ls.map Lst.v))∧(Al1 wr lb ls i j)∧(j≤(ls.getD i Lst.z).n))
   (fun⟨wr,j⟩=>(ls.getD i Lst.z).n-j)
   (⟨wr,0⟩:a0×Nat) ⟨o,hB,hW,hal,(bJ _)⟩ G ⟨rfl,rfl,rfl,rfl,up⟩ ?_
  rintro⟨wr,j⟩ ⟨o,hB,hW,hal,hj⟩
  refine cR [(0,a4 g 0),(3,a9 i),(4,i9 ((ls.getD i Lst.z).A) ((ls.getD i Lst.z).n) ((ls.getD i Lst.z).c)),(5,a9 j)] wr G ⟨rfl,rfl,rfl,rfl,up⟩ (a7 (a7 ?_))
  by_cases ee:j<(ls.getD i Lst.z).n
  ·refine a6 (mv 2 G (pu (v:= a9 (((ls.getD i Lst.z).n:Nat):Int)) G (aA G G G true (dG (a:=j) (b:=(ls.getD i Lst.z).n) G G) (a1 (aY G (aW (aC (a7 (bI (a6 (mv 4 G (d9 G G (vs:= [a9 i,a9 j]) (by kernel_rfl) (by decide) (nX) ?_))))))))))))
   rintro _ v2 ⟨_,rfl,r4,e3⟩
   refine dA ?_
   have q:UpU lb w v2:=o.then_ext e3
   obtain rfl:=r4
   obtain⟨p5,ce⟩:=((hal.ext e3)).addr L (k:=j) (by omega)
   refine bK G G G bS bM j G p5 ce (LJ G G G (hal.ext e3) L (by omega) ce fun v6 ey ar=>?_)
   have V:UpU lb w v6:=q.trans ar
   refine aS (bG (aC (a6 (mv 1 G (aR G G G ((j+1:Nat):Int) (bN (a:=j) (b:=1) G G) (mv 1 G (aS (bW (⟨v6,j+1⟩:a0×Nat) ⟨V,(ar.bk (hB.ext e3) (by decide)),(ar.own (hW.ext e3) (by decide)),ey,(by omega)⟩ (show (ls.getD i Lst.z).n-(j+1)<(ls.getD i Lst.z).n-j by omega) G ⟨rfl,rfl,rfl,rfl,up⟩))))))))
  ·refine a6 (mv 2 G (pu (v:= a9 (((ls.getD i Lst.z).n:Nat):Int)) G (aA G G G false (cW (a:=j) (b:=(ls.getD i Lst.z).n) G G) (a1 (aN G (cN (cI (cL (cM (bG (aC (a6 (mv 1 G ?_)))))))))))))
   refine aR G G G ((i+1:Nat):Int) (bN (a:=i) (b:=1) G G) (mv 1 G (aS (bW (⟨wr,i+1⟩:a0×Nat) ⟨o,hB,hW,((hal).next (by omega)),(by omega)⟩ (show ls.length-(i+1)<ls.length-i by omega) G ⟨rfl,rfl,up⟩)))
 ·have aj:i=ls.length:=by omega
  rw [aj] at hal
  have ci:=Al2.start hal
  refine a6 (mv 2 G (pf g 0 G (pf g 0 G (aL G G (aP (fun _=>by kernel_rfl) hB G) (pu (v:= a9 ((ls.length:Nat):Int)) G (aA G G G false (cW (a:=i) (b:=ls.length) G G) (a1 (aN G (cN (cI (cL (cM (aC ?_)))))))))))))
  refine sr (mv 1 G (pf g 0 G (pf g 0 G (aL G G (aP (fun _=>by kernel_rfl) hB G) (pu (v:= a9 ((ls.length:Nat):Int)) G (l6 G (k:=ls.length) G G G Tryz.underlying36 sZ G fun r av W bd X=>?_))))))
  have bf:w.heap.size≤r:=by rw [←W];exact o.size
  have am:∀p,WA=some p→p.block≠r:=fun p hp=>by have:=((hW).block p hp).2;omega
  have fj:g<r:=by rw [←W];exact hB.lt
  clear W
  have q:UpU lb w av:=o.then_ext X
  refine mv 1 G (a1 (a7 (sr (mv 1 G (a1 (bI ?_))))))
  refine cU (T:=a0×Nat×List Lst×List aD)
   (fun⟨wr,i,gs,gv⟩=> [(0,a4 g 0),(6,i9 (some ⟨r,0,none⟩) ls.length ls.length),(7,a9 i)])
   (fun⟨wr,i,gs,gv⟩=>wr)
   (fun⟨wr,i,gs,gv⟩=>(UpU lb w wr)∧(Bk wr g 47 [i9 WA ls.length wc,i9 IA im ic,i9 NA nm nc])∧(Own wr lw 22 1 WA ls.length wc (ls.map Lst.v))∧(Bk wr r 22 gv)∧(gv.length=ls.length)∧(Al2 wr lb ls gs)∧(i≤ls.length)∧(∀a,i≤a→gs.getD a Lst.z=ls.getD a Lst.z)∧(∀a,a<i→(gs.getD a Lst.z).n=(ls.getD a Lst.z).n+80)∧(∀a,a<i→a<ls.length→gv.getD a undef= .slice (gs.getD a Lst.z).A (gs.getD a Lst.z).n (gs.getD a Lst.z).c))
   (fun⟨wr,i,gs,gv⟩=>ls.length-i)
   (⟨av,0,ls,_⟩:a0×Nat×List Lst×List aD) ⟨q,(hB.ext X),(hW.ext X),bd,(List.length_replicate),(ci.ext X),(bJ _),(fun _ _=>rfl),(fun a ha=>absurd ha (Nat.not_lt_zero _)),(fun a ha=>absurd ha (Nat.not_lt_zero _))⟩ G ⟨rfl,rfl,rfl,up⟩ ?_
  rintro⟨wr,i,gs,gv⟩ ⟨o,hB,hW,hG,dr,hal,hi,bw,ak,ao⟩
  refine cR [(0,a4 g 0),(6,i9 (some ⟨r,0,none⟩) ls.length ls.length),(7,a9 i)] wr G ⟨rfl,rfl,rfl,up⟩ (a7 (a7 ?_))
  by_cases L:i<ls.length
  ·refine a6 (mv 2 G (pf g 0 G (pf g 0 G (aL G G (aP (fun _=>by kernel_rfl) hB G) (pu (v:= a9 ((ls.length:Nat):Int)) G (aA G G G true (dG (a:=i) (b:=ls.length) G G) (a1 (aY G (aW (aC (a7 (bI (a7 ?_)))))))))))))
   have bi:=hln i
   refine a6 (mv 1 G (pf g 0 G (pf g 0 G (aL G G (aP (fun _=>by kernel_rfl) hB G) (mv 1 G ?_)))))
   obtain⟨eg,bj,bv⟩:=(hW).atL (i:=i) (by omega)
   refine bK G G G kE kN i G eg bj (aL G G (cT oB bv) (mv 1 G (a1 (a7 (a7 ?_)))))
   have aw:=(bw i (aX _)).symm
   refine bF [(0,a4 g 0),(6,i9 (some ⟨r,0,none⟩) ls.length ls.length),(7,a9 i),(45,a9 i),(46,a4 g 0),(47,a4 g 0),(48,a4 g 0),(49,i9 WA ls.length wc),(50,a9 ((ls.length:Nat):Int)),(51,no),(8,i9 ((ls.getD i Lst.z).A) ((ls.getD i Lst.z).n) ((ls.getD i Lst.z).c))] ⟨rfl,rfl,rfl,rfl,rfl,rfl,rfl,rfl,rfl,rfl,rfl,up⟩ ?_
   rw [aw]
   refine a6 (mv 1 G (a1 (bI ?_)))
   refine cU (T:=a0×Nat×List Lst)
    (fun⟨wr,j,f⟩=> [(0,a4 g 0),(6,i9 (some ⟨r,0,none⟩) ls.length ls.length),(7,a9 i),(8,i9 ((f.getD i Lst.z).A) ((f.getD i Lst.z).n) ((f.getD i Lst.z).c)),(9,a9 j)])
    (fun⟨wr,j,f⟩=>wr)
    (fun⟨wr,j,f⟩=>(UpU lb w wr)∧(Bk wr g 47 [i9 WA ls.length wc,i9 IA im ic,i9 NA nm nc])∧(Own wr lw 22 1 WA ls.length wc (ls.map Lst.v))∧(Bk wr r 22 gv)∧(Al2 wr lb ls f)∧(j≤80)∧(∀a,a≠i→f.getD a Lst.z=gs.getD a Lst.z)∧((f.getD i Lst.z).n=(ls.getD i Lst.z).n+j))
    (fun⟨wr,j,f⟩=>80-j)
    (⟨wr,0,gs⟩:a0×Nat×List Lst) ⟨o,hB,hW,hG,hal,(bJ _),(fun _ _=>rfl),(by rw [aw];rfl)⟩ G ⟨rfl,rfl,rfl,rfl,rfl,up⟩ ?_
   rintro⟨wr,j,f⟩ ⟨o,hB,hW,hG,hal,hj,Y,du⟩
   refine cR [(0,a4 g 0),(6,i9 (some ⟨r,0,none⟩) ls.length ls.length),(7,a9 i),(8,i9 ((f.getD i Lst.z).A) ((f.getD i Lst.z).n) ((f.getD i Lst.z).c)),(9,a9 j)] wr G ⟨rfl,rfl,rfl,rfl,rfl,up⟩ (a7 (a7 ?_))
   by_cases ee:j<80
   ·refine a6 (mv 1 G (aA G G G true (dG (a:=j) (b:=80) G G) (a1 (aY G (aW (aC (a7 (bI (a6 (mv 3 G (pu (v:= a9 (((f.getD i Lst.z).n:Nat):Int)) G (d9 G G (vs:= [a9 i,a9 (((f.getD i Lst.z).n:Nat):Int)]) (by kernel_rfl) (by decide) (nX) ?_))))))))))))
    rintro _ ep ⟨_,rfl,dy,M⟩
    refine dA ?_
    have q:UpU lb w ep:=o.then_ext M
    obtain rfl:=dy
    refine fW G G (k:=1) (e:=65) [i5 ((eE i ((f.getD i Lst.z).n):Nat):Int)] (fun _=>by kernel_rfl) fun _ dm nb=>?_
    have ck:=nb.bk
    have U:=nb.ext
    clear nb
    have V:UpU lb w dm:=q.then_ext U
    refine LM G G G (hal.ext (M.t U)) (aE hlb V.size) L ck (by omega) (by decide) fun H F bg bm E=>?_
    have ct:UpU lb w bg:=V.trans E
    refine mv 1 G (aS (bG (aC ?_)))
    have ag:(f.set i ⟨H,(f.getD i Lst.z).n+1,F⟩).getD i Lst.z=(⟨H,(f.getD i Lst.z).n+1,F⟩:Lst):=k5 (by rw [hal.len];exact L)
    refine bF [(0,a4 g 0),(6,i9 (some ⟨r,0,none⟩) ls.length ls.length),(7,a9 i),(8,i9 ((⟨H,(f.getD i Lst.z).n+1,F⟩:Lst).A) ((⟨H,(f.getD i Lst.z).n+1,F⟩:Lst).n) ((⟨H,(f.getD i Lst.z).n+1,F⟩:Lst).c)),(9,a9 j),(61,a9 j),(62,no)] ⟨rfl,rfl,rfl,rfl,rfl,rfl,rfl,up⟩ ?_
    rw [←ag]
    refine a6 (mv 1 G (aR G G G ((j+1:Nat):Int) (bN (a:=j) (b:=1) G G) (mv 1 G (aS (bW (⟨bg,j+1,f.set i ⟨H,(f.getD i Lst.z).n+1,F⟩⟩:a0×Nat×List Lst) ⟨ct,(E.bk (hB.ext (M.t U)) (by decide)),(E.own (hW.ext (M.t U)) (by decide)),(E.bk (hG.ext (M.t U)) (by decide)),bm,(by omega),(fun a ha=>(k7 ha).trans (Y a ha)),(by rw [ag];show (f.getD i Lst.z).n+1=_;omega)⟩ (show 80-(j+1)<80-j by omega) G ⟨rfl,rfl,rfl,rfl,rfl,up⟩)))))
   ·have fa:j=80:=by omega
    refine a6 (mv 1 G (aA G G G false (cW (a:=j) (b:=80) G G) (a1 (aN G (cN (cI (cL (cM (aC (a6 (mv 3 G (bK G G G kE kN i G ⟨r,i,none⟩ (dN _ _) ?_))))))))))))
    have ai:=hG
    refine d6 G G G kN G ai (by omega) G (gv.set i (i9 ((f.getD i Lst.z).A) ((f.getD i Lst.z).n) ((f.getD i Lst.z).c))) G fun bu cm Z _=>?_
    have q:UpU lb w bu:=o.upd_new Z bf hlb
    refine aS (bG (aC (a6 (mv 1 G (aR G G G ((i+1:Nat):Int) (bN (a:=i) (b:=1) G G) (mv 1 G (aS (bW (⟨bu,i+1,f,gv.set i (i9 ((f.getD i Lst.z).A) ((f.getD i Lst.z).n) ((f.getD i Lst.z).c))⟩:a0×Nat×List Lst×List aD) ⟨q,(hB.vN Z),(hW.upd Z am),cm,(by rw [List.length_set];exact dr),(hal.updT ai (by decide) Z),(by omega),(fun a ha=>(Y a (by omega)).trans (bw a (by omega))),(fun a ha=>by by_cases e:a=i;(· subst e;rw [du];omega);(· rw [Y a e];exact ak a (by omega))),(fun a ha hl=>by by_cases e:a=i;(· subst e;rw [k5 (by omega)]);(· rw [k7 e,Y a e];exact ao a (by omega) hl))⟩ (show ls.length-(i+1)<ls.length-i by omega) G ⟨rfl,rfl,rfl,up⟩))))))))
  ·have aj:i=ls.length:=by omega
   rw [aj] at ak ao
   refine a6 (mv 2 G (pf g 0 G (pf g 0 G (aL G G (aP (fun _=>by kernel_rfl) hB G) (pu (v:= a9 ((ls.length:Nat):Int)) G (aA G G G false (cW (a:=i) (b:=ls.length) G G) (a1 (aN G (cN (cI (cL (cM (aC ?_)))))))))))))
   refine a7 (sr (mv 1 G (a1 (bI ?_))))
   refine cU (T:=a0×Nat)
    (fun⟨wr,k⟩=> [(0,a4 g 0),(6,i9 (some ⟨r,0,none⟩) ls.length ls.length),(10,a9 k)])
    (fun⟨wr,k⟩=>wr)
    (fun⟨wr,k⟩=>(UpU lb w wr)∧(Bk wr g 47 [i9 WA ls.length wc,i9 IA im ic,i9 NA nm nc])∧(Own wr lw 22 1 WA ls.length wc (ls.map Lst.v))∧(Bk wr r 22 gv)∧(Al2 wr lb ls gs)∧(k≤ls.length))
    (fun⟨wr,k⟩=>ls.length-k)
    (⟨wr,0⟩:a0×Nat) ⟨o,hB,hW,hG,hal,(bJ _)⟩ G ⟨rfl,rfl,rfl,up⟩ ?_
   rintro⟨wr,k⟩ ⟨o,hB,hW,hG,hal,_⟩
   refine cR [(0,a4 g 0),(6,i9 (some ⟨r,0,none⟩) ls.length ls.length),(10,a9 k)] wr G ⟨rfl,rfl,rfl,up⟩ (a7 (a7 ?_))
   by_cases aq:k<ls.length
   ·refine a6 (mv 2 G (pf g 0 G (pf g 0 G (aL G G (aP (fun _=>by kernel_rfl) hB G) (pu (v:= a9 ((ls.length:Nat):Int)) G (aA G G G true (dG (a:=k) (b:=ls.length) G G) (a1 (aY G (aW (aC (a7 (bI (a7 ?_)))))))))))))
    have fc:=hln k
    have fb:=ak k aq
    obtain⟨bz,ba,cf⟩:=(hW).atL (i:=k) (by omega)
    refine eI cQ 14 [] [Is (a9 k),Is (a4 g 0),Is (a4 g 0),Is (a4 g 0),Is (i9 WA ls.length wc),Is (a9 k),Is (.pointer (some bz)),Is (i9 ((ls.getD k Lst.z).A) ((ls.getD k Lst.z).n) ((ls.getD k Lst.z).c)),Is (i9 (some ⟨r,0,none⟩) ls.length ls.length),Is (a9 k),Is (.pointer (some (⟨r,k,none⟩))),Is (i9 ((gs.getD k Lst.z).A) ((gs.getD k Lst.z).n) ((gs.getD k Lst.z).c)),Is (no),Is (t9)] [[],[],[1],[2],[3],[],[4,5],[6],[],[],[8,9],[10],[0,7,11],[12]] [[],[],[1],[1,2],[1,2,3],[],[1,2,3,4,5],[1,2,3,4,5,6],[],[],[8,9],[8,9,10],[0,1,2,3,4,5,6,7,8,9,10,11],[0,1,2,3,4,5,6,7,8,9,10,11,12]] rfl
     (aJ G G (aF G G ?_) (aJ G G (aF G G ?_) (aJ G G (aF G G ?_) (aJ G G (aF G G ?_) (aJ G G (aF G G ?_) (aJ G G (aF G G ?_) (aJ G G (aF G G ?_) (aJ G G (aF G G ?_) (aJ G G (aF G G ?_) (aJ G G (aF G G ?_) (aJ G G (aF G G ?_) (aJ G G (aF G G ?_) (aJ G G (aF G G ?_) (aJ G G (aF G G ?_) dY)))))))))))))) ?_
    ·intro ej ei
     have q:UpU lb w ej:=o.then_ext ei
     refine aG (mv 1 G ?_)
     exact aI G aK rfl
    ·intro dw ef
     have q:UpU lb w dw:=o.then_ext ef
     refine aG (mv 1 G ?_)
     exact aI G aK rfl
    ·intro em dd
     have q:UpU lb w em:=o.then_ext dd
     refine dk G G (aG (pf g 0 G ?_))
     exact aI G aK rfl
    ·intro ea dg
     have q:UpU lb w ea:=o.then_ext dg
     refine dk G G (aG (pf g 0 G ?_))
     exact aI G aK rfl
    ·intro da bt
     have q:UpU lb w da:=o.then_ext bt
     refine dk G G (aG (aL G G (aP (fun _=>by kernel_rfl) (hB.ext bt) G) ?_))
     exact aI G aK rfl
    ·intro df cu
     have q:UpU lb w df:=o.then_ext cu
     refine aG (mv 1 G ?_)
     exact aI G aK rfl
    ·intro dh eh
     have q:UpU lb w dh:=o.then_ext eh
     refine dk G G (dk G G (aG (bK G G G kE kN k G bz ba ?_)))
     exact aI G aK rfl
    ·intro el cj
     have q:UpU lb w el:=o.then_ext cj
     refine dk G G (aG (aL G G (cT oB (cj.cell cf)) ?_))
     exact aI G aK rfl
    ·intro en dz
     have q:UpU lb w en:=o.then_ext dz
     refine aG (mv 1 G ?_)
     exact aI G aK rfl
    ·intro dx cv
     have q:UpU lb w dx:=o.then_ext cv
     refine aG (mv 1 G ?_)
     exact aI G aK rfl
    ·intro dl ew
     have q:UpU lb w dl:=o.then_ext ew
     refine dk G G (dk G G (aG (bK G G G kE kN k G ⟨r,k,none⟩ (dN _ _) ?_)))
     exact aI G aK rfl
    ·intro de bh
     have q:UpU lb w de:=o.then_ext bh
     refine dk G G (aG (aL G G (cT oB (by have h:=((hG.ext bh)).cell (i:=k) (by omega);rw [ao k (by omega) (by omega)] at h;exact h)) ?_))
     exact aI G aK rfl
    ·intro co I
     have q:UpU lb w co:=o.then_ext I
     refine dk G G (dk G G (dk G G (aG (d9 G G (vs:= [a9 k,i9 ((ls.getD k Lst.z).A) ((ls.getD k Lst.z).n) ((ls.getD k Lst.z).c),i9 ((gs.getD k Lst.z).A) ((gs.getD k Lst.z).n) ((gs.getD k Lst.z).c)]) (by kernel_rfl) (by decide) (UG (by omega) ((hal.ext I).rd1 aq hN (by omega)) ((hal.ext I).rd2 aq hN (by omega)) (by omega) (by omega)) ?_))))
     rintro _ bo ⟨_,rfl,ch,ab⟩
     refine dA ?_
     have V:UpU lb w bo:=q.then_ext ab
     obtain rfl:=ch
     exact aI G ab rfl
    ·intro cg au
     have q:UpU lb w cg:=o.then_ext au
     refine dk G G (aG (pu (v:= t9) G ?_))
     exact aI G aK rfl
    ·intro ah D
     have q:UpU lb w ah:=o.then_ext D
     refine dk G G (dk G G (dk G G (dk G G (dk G G (dk G G (dk G G (dk G G (dk G G (dk G G (dk G G (dk G G (dk G G (dk G G ?_)))))))))))))
     refine aG (aS (eB (aC (aN G (aW (bG (aC (a6 (mv 1 G (aR G G G ((k+1:Nat):Int) (bN (a:=k) (b:=1) G G) (mv 1 G (aS (bW (⟨ah,k+1⟩:a0×Nat) ⟨q,(hB.ext D),(hW.ext D),(hG.ext D),(hal.ext D),(by omega)⟩ (show ls.length-(k+1)<ls.length-k by omega) G ⟨rfl,rfl,rfl,up⟩)))))))))))))
   ·refine a6 (mv 2 G (pf g 0 G (pf g 0 G (aL G G (aP (fun _=>by kernel_rfl) hB G) (pu (v:= a9 ((ls.length:Nat):Int)) G (aA G G G false (cW (a:=k) (b:=ls.length) G G) (a1 (aN G (cN (cI (cL (cM (aC ?_)))))))))))))
    refine sr (mv 1 G (a1 (aU (aT [no] G ⟨rfl,up⟩ ?_))))
    exact⟨rfl,o⟩
theorem U4 {wn:Nat}(hB:Bk w g 47 [i9 WA wn wc,i9 IA im ic,i9 NA 0 nc]):aQ aH 78 #[a4 g 0] w (Gv w (Is (no))):=by
 refine bL Tryz.func78 G (n:=133) G (bq G) (args:= [a4 g 0]) (bF [(0,a4 g 0)] ⟨rfl,up⟩ (sr (mv 1 G (a1 (a7 (sr (mv 1 G (a1 (bI ?_)))))))))
 refine cU (T:=a0×Nat)
  (fun⟨wr,i⟩=> [(0,a4 g 0),(3,a9 i)])
  (fun⟨wr,i⟩=>wr)
  (fun⟨wr,i⟩=>(Ext w wr)∧(Bk wr g 47 [i9 WA wn wc,i9 IA im ic,i9 NA 0 nc]))
  (fun⟨wr,i⟩=>i)
  (⟨w,0⟩:a0×Nat) ⟨(Ext.refl w),hB⟩ G ⟨rfl,rfl,up⟩ ?_
 rintro⟨wr,i⟩ ⟨e,hB⟩
 refine cR [(0,a4 g 0),(3,a9 i)] wr G ⟨rfl,rfl,up⟩ (a7 (sr (mv 2 G (pf g 0 G (pf g 2 G (aL G G (aP (fun _=>by kernel_rfl) hB G) (pu (v:= a9 0) G (aA G G G false (cW (a:=i) (b:=0) G G) (a1 (aN G (cN (cI (cL ?_)))))))))))))
 refine cM (aC (sr (mv 1 G (pf g 0 G (pf g 2 G (aL G G (aP (fun _=>by kernel_rfl) hB G) (pu (v:= a9 0) G (l6 G (k:=0) G G G Tryz.underlying45 S8 G fun h q f _ p=>?_))))))))
 have r:w.heap.size≤h:=by rw [←f];exact e.size
 clear f
 have o:=e.trans p
 refine mv 1 G (a1 (a7 (sr (mv 1 G (a1 (bI ?_))))))
 refine cU (T:=a0×Nat)
  (fun⟨wr,i⟩=> [(0,a4 g 0),(6,i9 (some ⟨h,0,none⟩) 0 0),(7,a9 i)])
  (fun⟨wr,i⟩=>wr)
  (fun⟨wr,i⟩=>(Ext w wr)∧(Bk wr g 47 [i9 WA wn wc,i9 IA im ic,i9 NA 0 nc]))
  (fun⟨wr,i⟩=>i)
  (⟨q,0⟩:a0×Nat) ⟨o,(hB.ext p)⟩ G ⟨rfl,rfl,rfl,up⟩ ?_
 rintro⟨wr,i⟩ ⟨e,hB⟩
 refine cR [(0,a4 g 0),(6,i9 (some ⟨h,0,none⟩) 0 0),(7,a9 i)] wr G ⟨rfl,rfl,rfl,up⟩ (a7 (sr (mv 2 G (pf g 0 G (pf g 2 G (aL G G (aP (fun _=>by kernel_rfl) hB G) (pu (v:= a9 0) G (aA G G G false (cW (a:=i) (b:=0) G G) (a1 (aN G (cN (cI (cL ?_)))))))))))))
 refine cM (aC (a7 (sr (mv 1 G (a1 (bI ?_))))))
 refine cU (T:=a0×Nat)
  (fun⟨wr,i⟩=> [(0,a4 g 0),(6,i9 (some ⟨h,0,none⟩) 0 0),(10,a9 i)])
  (fun⟨wr,i⟩=>wr)
  (fun⟨wr,i⟩=>(Ext w wr)∧(Bk wr g 47 [i9 WA wn wc,i9 IA im ic,i9 NA 0 nc]))
  (fun⟨wr,i⟩=>i)
  (⟨wr,0⟩:a0×Nat) ⟨e,hB⟩ G ⟨rfl,rfl,rfl,up⟩ ?_
 rintro⟨wr,i⟩ ⟨e,hB⟩
 refine cR [(0,a4 g 0),(6,i9 (some ⟨h,0,none⟩) 0 0),(10,a9 i)] wr G ⟨rfl,rfl,rfl,up⟩ (a7 (sr (mv 2 G (pf g 0 G (pf g 2 G (aL G G (aP (fun _=>by kernel_rfl) hB G) (pu (v:= a9 0) G (aA G G G false (cW (a:=i) (b:=0) G G) (a1 (aN G (cN (cI (cL ?_)))))))))))))
 refine cM (aC (sr (mv 1 G (a1 (aU (aT [no] G ⟨rfl,up⟩ ?_))))))
 exact⟨_,rfl,rfl,e⟩
theorem UQ {li:Nat}{ms:List Lst}(hB:Bk w g 47 [i9 WA ls.length wc,i9 IA ms.length ic,i9 NA 0 nc])(hW:Own w lw 22 1 WA ls.length wc (ls.map Lst.v))(hI:Own w li 25 1 IA ms.length ic (ms.map Lst.v))(hal:Al0 w lb ls)(hai:Ai1 w lb ms 0 0)(hlb:lb≤w.heap.size)(hN:ls.length≤4194304)(hln:∀a,(ls.getD a Lst.z).n≤1099511620000)(hM:ms.length≤4194304)(hlm:∀a,(ms.getD a Lst.z).n≤1099511620000):aQ aH 20 #[a4 g 0] w (fun e w'=>e= .returned (no)∧UpW lb w w'):=by
 refine bL Tryz.func20 G (n:=19) G (bq G) (args:= [a4 g 0]) (bF [(0,a4 g 0)] ⟨rfl,up⟩ (sr (mv 1 G (a1 (sr (mv 1 G (d9 G G (vs:= [a4 g 0]) (by kernel_rfl) (by decide) (TB hB hW hal hlb hN hln) ?_)))))))
 rintro _ F ⟨rfl,f⟩
 refine dA ?_
 have q:UpW lb w F:=(UpW.refl lb w).trans f.upw
 refine mv 1 G (a1 (sr (mv 1 G (d9 G G (vs:= [a4 g 0]) (by kernel_rfl) (by decide) (UF (f.bk hB (by decide)) (f.own hI (by decide)) (hai.upU f) (aE hlb f.size) hM hlm) ?_))))
 rintro _ E ⟨rfl,h⟩
 refine dA ?_
 have p:UpW lb w E:=q.trans h.upw
 refine mv 1 G (a1 (sr (mv 1 G (d9 G G (vs:= [a4 g 0]) (by kernel_rfl) (by decide) (U4 (h.bk (f.bk hB (by decide)) (by decide))) ?_))))
 rintro _ H ⟨_,rfl,r,D⟩
 obtain rfl:=r
 refine dA ?_
 have o:UpW lb w H:=p.then_ext D
 refine mv 1 G (a1 (sr (mv 3 G (pu (v:= no) G (mv 2 G (pu (v:= no) G (mv 1 G (a1 (aU (aT [no] G ⟨rfl,up⟩ ?_))))))))))
 exact⟨rfl,o⟩
section
variable (P:bV) (n:Nat) (ol:List bB) (vs:List aD) (ws:List a0) (w:a0) (dss:List (List Nat)) (l:Fr) (st:List Nat)
def rQ (i t:Nat):Prop:=
 match ol[i]? with
 | some o=>if st.contains i then gB P n (dfr ol vs l (bQ dss i)) o (wv ws w t) (match o.dst with | none=> .skip | some _=> .value ((vs[i]?).getD undef)) (wv ws w (t+1)) else gB P n (dfr ol vs l (bQ dss i)) o (wv ws w t) (.value ((vs[i]?).getD undef)) (wv ws w t)
 | none=>True
def lI:List (Nat×Nat)→Prop
 | []=>True
 | (i,t)::r=>rQ P n ol vs ws w dss l st i t∧lI r
end
def BK (n : Nat)(ol : List bB)(st : List Nat)(l : Fr)(dss rl : List (List Nat))(ps : List (Nat × Nat)): Bool :=
  (ol.zipIdx.all fun (o, i) => (match o.guard with | none => true | some _ => false) && (o.after.toList.all fun e => !Region.binds .any e || decide (e.on < i)) &&
    ((bQ rl i).all fun j => decide (j < i) && o.after.toList.any fun e => gU .any e && (e.on == j || (bQ rl e.on).contains j)) &&
    ((bQ dss i).all fun j => (bQ rl i).contains j) &&
    (match o.dst with
     | some d => decide (d < n) && l.all (fun p => p.1 != d) && ol.zipIdx.all (fun (o', j) => j == i || o'.dst != some d)
     | none => st.contains i) &&
    (fI (st.length + 1)).all (fun t => decide (t < gR st (bQ rl i)) || (t != 0 && (bQ rl (st.getD (t - 1) 0)).contains i) || (st.contains i && t != gR st (bQ rl i)) || ps.contains (i, t))) &&
  (fI st.length).all (fun t => decide (st.getD t 0 < ol.length) && (fI t).all fun u => (bQ rl (st.getD t 0)).contains (st.getD u 0))
structure DetOkG (n:Nat)(ol:List bB)(st:List Nat)(l:Fr)(dss rl:List (List Nat))(ps:List (Nat×Nat)):Prop where
 guard:∀(i:Nat) (o:bB),ol[i]?=some o→o.guard=none
 back:∀(i:Nat) (o:bB),ol[i]?=some o→∀e∈o.after,gU .any e=true→e.on<i
 reach:∀(i:Nat) (o:bB),ol[i]?=some o→∀j∈bQ rl i,j<i∧∃e∈o.after,gU .any e=true∧(e.on=j∨j∈bQ rl e.on)
 deps:∀(i:Nat) (o:bB),ol[i]?=some o→∀j∈bQ dss i,j∈bQ rl i
 val:∀(i:Nat) (o:bB),ol[i]?=some o→∀d,o.dst=some d→d<n∧(∀p∈l,p.1≠d)∧∀(j:Nat) (o':bB),ol[j]?=some o'→j≠i→o'.dst≠some d
 sto:∀(i:Nat) (o:bB),ol[i]?=some o→o.dst=none→i∈st
 pair:∀(i:Nat) (o:bB),ol[i]?=some o→∀t,t≤st.length→gR st (bQ rl i)≤t→(t=0∨i ∉ bQ rl (st.getD (t-1) 0))→(i∈st→t=gR st (bQ rl i))→(i,t)∈ps
 inN:∀t,t<st.length→st.getD t 0<ol.length
 ord:∀t,t<st.length→∀u,u<t→st.getD u 0∈bQ rl (st.getD t 0)
theorem VR (h:BK n ol st l dss rl ps=true):DetOkG n ol st l dss rl ps:=by
 simp only [BK,dW] at h
 obtain⟨h1,h2⟩:=h
 have key:=fun (i:Nat) (o:bB) (f:ol[i]?=some o)=>mV h1 i o f
 simp only [dW] at key
 have q:∀t,t<st.length→st.getD t 0<ol.length∧∀u,u<t→st.getD u 0∈bQ rl (st.getD t 0):=by
  intro t ht
  rw [eK] at h2
  have:=h2 t (gF.2 ht)
  simp only [dW,decide_eq_true_eq,eK,gF,jO] at this
  exact this
 refine⟨fun i o f=>?_,fun i o f e he hb=>?_,fun i o f j hj=>?_,fun i o f j hj=>?_,fun i o f d D=>?_,fun i o f D=>?_,fun i o f t ht _ I hs=>?_,fun t ht=>(q t ht).1,fun t ht=>(q t ht).2⟩
 ·have:=(key i o f).1.1.1.1.1
  cases hg:o.guard with
  | none=>rfl
  | some g=>rw [hg] at this;cases this
 ·have:=(key i o f).1.1.1.1.2
  rw [eK] at this
  have:=this e (by simpa using he)
  simpa [hb] using this
 ·have:=(key i o f).1.1.1.2
  rw [eK] at this
  have:=this j hj
  simp only [dW,decide_eq_true_eq,List.any_eq_true,kM,beq_iff_eq,jO] at this
  obtain⟨M,e,he,hb,E⟩:=this
  exact⟨M,e,by simpa using he,hb,E⟩
 ·have:=(key i o f).1.1.2
  rw [eK] at this
  simpa using this j hj
 ·have:=(key i o f).1.2
  rw [D] at this
  simp only [dW,decide_eq_true_eq] at this
  obtain⟨⟨E,F⟩,H⟩:=this
  refine⟨E,fun p L=>?_,fun j o' ho' r e=>?_⟩
  ·rw [eK] at F
   simpa using F p L
  ·have:=mV H j o' ho'
   simp only [kM,beq_iff_eq,bne_iff_ne] at this
   rcases this with h | h
   ·exact r h
   ·exact h e
 ·have:=(key i o f).1.2
  rw [D] at this
  exact jO.1 this
 ·have:=(key i o f).2
  rw [eK] at this
  have:=this t (gF.2 (by omega))
  simp only [kM,dW,decide_eq_true_eq,bne_iff_ne,ne_eq,jO] at this
  rcases this with ((h | h) | h) | h
  ·omega
  ·rcases I with h0 | h0
   ·exact absurd h0 h.1
   ·exact absurd h.2 h0
  ·exact absurd (hs h.1) h.2
  ·exact h
section
variable {P:bV}{Q:Exit→Act→a0→Prop}{n:Nat}{ol:List bB}{vs:List aD}{ws:List a0}{w:a0}{dss rl:List (List Nat)}{l:Fr}{st:List Nat}{ps:List (Nat×Nat)}
theorem IZ:∀{ps:List (Nat×Nat)},lI P n ol vs ws w dss l st ps→∀i t,(i,t)∈ps→rQ P n ol vs ws w dss l st i t
 | [],_,i,t,h=>by cases h
 | (j,u)::r,h,i,t,hm=>by
  rcases List.mem_cons.1 hm with e | e
  ·cases e;exact h.1
  ·exact IZ h.2 i t e
theorem JI (hk:DetOkG n ol st l dss rl ps)(h:Closed ol listed):∀(i:Nat) (o:bB),ol[i]?=some o→(∀e∈o.after,gU .any e=true→listed.getD e.on false=true)→∀j∈bQ rl i,listed.getD j false=true:=by
 intro i
 induction i using Nat.strongRecOn with
 | ind i ih=>
  intro o q f j hj
  obtain⟨_,e,he,hb,h1⟩:=hk.reach i o q j hj
  have p:=hk.back i o q e he hb
  rcases h1 with h1 | h1
  ·rw [←h1];exact f e he hb
  ·have r:e.on<ol.length:=Nat.lt_trans p (fS.1 q).1
   exact ih e.on p _ (bR r) (h e.on _ (bR r) (f e he hb)) j h1
theorem VO (hk:DetOkG n ol st l dss rl ps)(ho:lI P n ol vs ws w dss l st ps)(hfin:eo Q .normal n (rL ol vs l) (wv ws w st.length)):∀(fuel:Nat) (listed:Array Bool) (a:Act) (t:Nat),oO ol.length listed≤fuel→listed.size=ol.length→Closed ol listed→t≤st.length→(∀u,u<st.length→listed.getD (st.getD u 0) false=decide (u<t))→Rp n l a→
   (∀i,i<ol.length→listed.getD i false=true→∀d,dL ol i=some d→a.tmps.getD d undef=(vs[i]?).getD undef)→wpAny P .any ol.toArray Q fuel listed a (wv ws w t):=by
 have fin:∀(listed:Array Bool) (a:Act) (t:Nat),(∀i,i<ol.length→listed.getD i false=true)→t≤st.length→(∀u,u<st.length→listed.getD (st.getD u 0) false=decide (u<t))→Rp n l a→
   (∀i,i<ol.length→listed.getD i false=true→∀d,dL ol i=some d→a.tmps.getD d undef=(vs[i]?).getD undef)→Q .normal a (wv ws w t):=by
  intro listed a t p ht q hr hv
  have e:t=st.length:=by
   rcases gP t st.length with h | h
   ·have h1:=q t h
    rw [p _ (hk.inN t h)] at h1
    simp at h1
   ·omega
  subst e
  exact hfin a (hr.dfr _ fun j hj d I=>hv j (gF.1 hj) (p j (gF.1 hj)) d I)
 intro fuel
 induction fuel with
 | zero=>
  intro listed a t hf hs E ht q hr hv
  have p:∀i,i<ol.length→listed.getD i false=true:=by
   intro i hi
   cases h:listed.getD i false with
   | true=>rfl
   | false=>have:=j9 hi hs h;omega
  refine⟨?_,fin listed a t p ht q hr hv⟩
  refine List.eq_nil_iff_forall_not_mem.2 fun j hj=>?_
  obtain⟨h1,o,ab,_⟩:=iX.1 hj
  have bh:j<ol.length:=(fS.1 ab).1
  rw [j0,p j bh] at h1
  cases h1
 | succ fuel ih=>
  intro listed a t hf hs E ht q hr hv
  refine⟨fun h0=>?_,fun i bd=>?_⟩
  ·refine fin listed a t (fun i hi=>?_) ht q hr hv
   have key:∀k,k≤ol.length→∀i,i<k→listed.getD i false=true:=by
    intro k
    induction k with
    | zero=>intro _ i hi;omega
    | succ k ihk=>
     intro hk' i hi
     have ih':=ihk (by omega)
     rcases gP i k with h | h
     ·exact ih' i h
     ·have e:i=k:=by omega
      subst e
      cases hb:listed.getD i false with
      | true=>rfl
      | false=>
       have ah:i∈Region.ready .any ol.toArray listed:=iX.2 ⟨by rw [j0];exact hb,_,bR (by omega),fun e he ar=>ih' _ (hk.back i _ (bR (by omega)) e he ar)⟩
       rw [h0] at ah;cases ah
   exact key ol.length (aX _) i hi
  ·obtain⟨ba,o,f,p⟩:=iX.1 bd
   have V:i<ol.length:=(fS.1 f).1
   have hun':listed.getD i false=false:=by rw [←j0];exact ba
   have U:=JI hk E i o f p
   have am:gR st (bQ rl i)≤t:=BR fun u _ az Z=>by
    have h1:=U _ Z
    rw [q u az] at h1
    simp at h1;omega
   have aj:t=0∨i ∉ bQ rl (st.getD (t-1) 0):=by
    rcases Nat.eq_zero_or_pos t with h | h
    ·exact cD h
    ·refine bT fun Z=>?_
     have h1:=q (t-1) (by omega)
     rw [decide_eq_true (by omega)] at h1
     have hN:=hk.inN (t-1) (by omega)
     have h2:=JI hk E _ _ (bR hN) (fun e he hb=>E _ _ (bR hN) h1 e he hb) i Z
     rw [hun'] at h2;cases h2
   have r:i∈st→t<st.length∧st.getD t 0=i∧t=gR st (bQ rl i):=by
    intro Z
    obtain⟨u,D,bi⟩:=List.getElem_of_mem Z
    have hg:st.getD u 0=i:=by rw [bE,bR D];exact bi
    have h1:=q u D
    rw [hg,hun'] at h1
    have h2:¬u<t:=by intro h;rw [decide_eq_true h] at h1;cases h1
    have h3:u=t:=by
     rcases gP t u with h | h
     ·have h4:=hk.ord u D t h
      rw [hg] at h4
      have h5:=U _ h4
      rw [q t (by omega)] at h5
      simp at h5
     ·omega
    subst h3
    refine⟨D,hg,?_⟩
    have h4:=AY (st:=st) (js:=bQ rl i) (t:=u) (fun v hv'=>by rw [←hg];exact hk.ord u D v hv')
    omega
   have aF:=IZ ho i t (hk.pair i o f t ht am aj (fun Z=>(r Z).2.2))
   unfold rQ at aF
   rw [f] at aF
   simp only at aF
   have X:Rp n (dfr ol vs l (bQ dss i)) a:=hr.dfr _ fun j hj d I=>by
    have h1:=U j (hk.deps i o f j hj)
    have h2:=(hk.reach i o f j (hk.deps i o f j hj)).1
    exact hv j (by omega) h1 d I
   have ai:oE o (yielded ol.toArray a.tmps)=true:=by simp [oE,hk.guard i o f]
   unfold wpOp
   rw [m6,f]
   simp only
   rw [if_pos ai]
   refine cD ?_
   unfold Oper.wp
   cases I:o.dst with
   | some d=>
    obtain⟨au,ae,ao⟩:=hk.val i o f d I
    have Y:∀v,v=(vs[i]?).getD undef→∀j,j<ol.length→(listed.setIfInBounds i true).getD j false=true→∀e,dL ol j=some e→(a.put d v).tmps.getD e undef=(vs[j]?).getD undef:=fun v bg j hj L e he=>by
     subst bg
     by_cases H:i=j
     ·subst H
      have e1:dL ol i=some d:=by unfold dL;rw [f];exact I
      rw [e1] at he
      cases he
      exact qD hr.size au _
     ·rw [Go.getD_set_ne false H] at L
      have M:e≠d:=by
       intro av
       subst av
       obtain⟨oj,ab⟩:∃oj,ol[j]?=some oj:=⟨_,bR hj⟩
       refine ao j oj ab (Ne.symm H) ?_
       unfold dL at he
       rw [ab] at he
       exact he
      have:=sI (a:=a) (d:=d) (e:=some e) (fun h=>M (iG h)) ((vs[i]?).getD undef)
      exact this.trans (hv j hj L e he)
    by_cases F:i∈st
    ·obtain⟨aw,W,_⟩:=r F
     rw [if_pos (by simpa using F)] at aF
     simp only [I] at aF
     rw [aF a X]
     simp only [kL,I]
     refine ih _ _ (t+1) (by have:=j9 V hs hun';omega) (by simpa using hs) (E.set f p) (by omega) (fun u D=>?_) (hr.put_far ae _) (Y _ G)
     by_cases ak:u=t
     ·subst ak
      rw [W]
      simp [hs,V]
     ·have M:i≠st.getD u 0:=by
       intro e
       rcases gP u t with h | h
       ·have h1:=q u D
        rw [←e,hun',decide_eq_true h] at h1;cases h1
       ·have h4:=hk.ord u D t (by omega)
        rw [W,←e] at h4
        have:=(hk.reach i o f i h4).1
        omega
      rw [Go.getD_set_ne false M,q u D]
      congr 1
      simp only [eq_iff_iff]
      omega
    ·rw [if_neg (by simpa using F)] at aF
     rw [aF a X]
     simp only [kL,I]
     refine ih _ _ t (by have:=j9 V hs hun';omega) (by simpa using hs) (E.set f p) ht (fun u D=>?_) (hr.put_far ae _) (Y _ G)
     rw [Go.getD_set_ne false (fun e=>F (by rw [e,bE,bR D];exact List.getElem_mem D))]
     exact q u D
   | none=>
    have Z:=hk.sto i o f I
    obtain⟨aw,W,_⟩:=r Z
    rw [if_pos (by simpa using Z)] at aF
    simp only [I] at aF
    rw [aF a X]
    simp only [kL,I]
    refine ih _ _ (t+1) (by have:=j9 V hs hun';omega) (by simpa using hs) (E.set f p) (by omega) (fun u D=>?_) hr (fun j hj L e he=>?_)
    ·by_cases ak:u=t
     ·subst ak
      rw [W]
      simp [hs,V]
     ·have M:i≠st.getD u 0:=by
       intro e
       rcases gP u t with h | h
       ·have h1:=q u D
        rw [←e,hun',decide_eq_true h] at h1;cases h1
       ·have h4:=hk.ord u D t (by omega)
        rw [W,←e] at h4
        have:=(hk.reach i o f i h4).1
        omega
      rw [Go.getD_set_ne false M,q u D]
      congr 1
      simp only [eq_iff_iff]
      omega
    ·by_cases H:i=j
     ·subst H
      have e1:dL ol i=none:=by unfold dL;rw [f];exact I
      rw [e1] at he;cases he
     ·rw [Go.getD_set_ne false H] at L
      exact hv j hj L e he
theorem J9 (hmix:P.follows .mixedOrders=true)(vs:List aD)(ws:List a0)(st:List Nat)(dss rl:List (List Nat))(ps:List (Nat×Nat))(hk:BK n ol st l dss rl ps=true)(hw:wv ws w 0=w0.drew)(ho:lI P n ol vs ws w dss l st ps)(hfin:eo Q .normal n (rL ol vs l) (wv ws w st.length)):cw P Q n (.region id ol.toArray true) l w0:=fun a p=>by
 refine wp_region_any hmix ?_
 have f:(oL ol.toArray.size false).size=ol.length:=by simp
 have e:∀i,(oL ol.toArray.size false).getD i false=false:=by
  intro i
  simp only [Array.getD_eq_getD_getElem?,Array.getElem?_replicate]
  split <;> rfl
 have:=VO (VR hk) ho hfin ol.toArray.size _ a 0 (by
  refine aE List.countP_le_length ?_
  simp) f (fun i o _ h=>by rw [e] at h;cases h) (bJ _) (fun u _=>by rw [e];simp) p (fun i _ h=>by rw [e] at h;cases h)
 rw [hw] at this
 exact this
theorem eV {t:Nat}(acc:Fr)(ho:ol[i]?=some o)(hs:st.contains i=false)(hv:(vs[i]?).getD undef=v)(hw:wv ws w t=wt)(hacc:dfr ol vs l (bQ dss i)=acc)(h:gB P n acc o wt (.value v) wt)(h':lI P n ol vs ws w dss l st ps):lI P n ol vs ws w dss l st ((i,t)::ps):=⟨by unfold rQ;rw [ho];simp only;rw [hs,if_neg (by simp),hv,hw,hacc];exact h,h'⟩
theorem IW {t:Nat}(acc:Fr)(ho:ol[i]?=some o)(hs:st.contains i=true)(hd:o.dst=none)(hw:wv ws w t=wt)(hw':wv ws w (t+1)=wt')(hacc:dfr ol vs l (bQ dss i)=acc)(h:gB P n acc o wt .skip wt')(h':lI P n ol vs ws w dss l st ps):lI P n ol vs ws w dss l st ((i,t)::ps):=⟨by unfold rQ;rw [ho];simp only;rw [hs,if_pos rfl,hw,hw',hacc,hd];exact h,h'⟩
theorem wT {t:Nat}(acc:Fr)(ho:ol[i]?=some o)(hs:st.contains i=true)(hv:(vs[i]?).getD undef=v)(hw:wv ws w t=wt)(hw':wv ws w (t+1)=wt')(hacc:dfr ol vs l (bQ dss i)=acc)(h:gB P n acc o wt (.value v) wt')(h':lI P n ol vs ws w dss l st ps)(hd:o.dst≠none:=by decide):lI P n ol vs ws w dss l st ((i,t)::ps):=⟨by unfold rQ;rw [ho];simp only;rw [hs,if_pos rfl,hw,hw',hacc,hv];cases hx:o.dst with | none=>exact absurd hx hd | some d=>exact h,h'⟩
theorem IX:lI P n ol vs ws w dss l st []:=trivial
end
structure UpK (lb:Nat)(w w':a0):Prop where
 os:w'.os=w.os
 tape:w'.tape=w.tape
 output:w'.output=w.output
 size:w.heap.size≤w'.heap.size
 low:∀k,k<lb→k<w.heap.size→w'.heap[k]?=w.heap[k]?
 typ:∀(k:Nat) (cs:Array aD) (t:aV) (fr:Nat×Nat),w.heap[k]?=some (.cells cs t fr)→t≠22→t≠47→t≠25→w'.heap[k]?=some (.cells cs t fr)
section
variable {lb:Nat}{a b c w w':a0}
theorem UpK.trans (h:UpK lb a b)(e:UpK lb b c):UpK lb a c:=
 ⟨e.os.trans h.os,e.tape.trans h.tape,e.output.trans h.output,aE h.size e.size,fun k f hs=>(e.low k f (cS hs h.size)).trans (h.low k f hs),fun k cs t fr p h1 h2 o=>e.typ k cs t fr (h.typ k cs t fr p h1 h2 o) h1 h2 o⟩
theorem UpK.of_ext (lb:Nat)(e:Ext w w'):UpK lb w w':=⟨e.below.os,e.below.tape,e.below.output,e.size,fun k _ hs=>e.below.block k hs,fun _ _ _ _ f _ _ _=>e.heap f⟩
theorem UpK.ext (h:UpK lb w w')(e:Ext a w)(hl:a.heap.size≤lb):Ext a w':=
 ⟨⟨h.os.trans e.below.os,h.tape.trans e.below.tape,h.output.trans e.below.output,aE e.size h.size,fun k f=>(h.low k (cS f hl) (cS f e.size)).trans (e.below.block k f)⟩⟩
theorem UpK.bk (h:UpK lb w w')(hb:Bk w g t vs)(h1:t≠22)(h2:t≠47)(h3:t≠25):Bk w' g t vs:=h.typ g _ _ _ hb h1 h2 h3
theorem UpK.own (h:UpK lb w w')(ho:Own w base t s A n cap vs)(h1:t≠22)(h2:t≠47)(h3:t≠25):Own w' base t s A n cap vs:=by
 rcases ho with ho | ⟨g,cs,f,hb,e,r⟩
 ·exact cD ho
 ·exact bT ⟨g,cs,f,hb,h.bk e h1 h2 h3,r⟩
theorem UpK.ofO (hT:T=22∨T=25)(ho:Own w lb T s A n cap vs)(u:UpdO A w w'):UpK lb w w':=by
 refine⟨u.by_.os,u.by_.tape,u.by_.output,u.size,fun k o hs=>?_,fun k cs t fr h1 h2 _ r=>?_⟩
 ·refine u.by_.block k hs fun e=>?_
  cases A with
  | none=>cases e
  | some p=>
   have e':k=p.block:=iG e
   have:=(ho.block p G).1
   omega
 ·refine u.heap h1 fun p f e=>?_
  have ht:t=T:=by
   rcases ho with⟨h,_⟩ | ⟨g,cs',q,_,o,_⟩
   ·rw [h] at f;cases f
   ·rw [q] at f;cases f
    simp only at e
    subst e
    unfold Bk at o
    rw [o] at h1
    injection h1 with h1
    injection h1 with _ h1
    exact h1.symm
  rcases hT with h | h
  ·exact h2 (ht.trans h)
  ·exact r (ht.trans h)
theorem UpK.ofU (hb:Bk w g 47 vs)(hg:lb≤g)(u:Upd g w w'):UpK lb w w':=by
 have u':UpdO (some ⟨g,0,none⟩) w w':=u.updO
 refine⟨u'.by_.os,u'.by_.tape,u'.by_.output,u'.size,fun k _ hs=>?_,fun k cs t fr h1 _ h2 _=>?_⟩
 ·refine u'.by_.block k hs fun e=>?_
  have e':k=g:=iG e
  omega
 ·refine u'.heap h1 fun p f e=>h2 ?_
  cases f
  simp only at e
  subst e
  unfold Bk at hb
  rw [hb] at h1
  injection h1 with h1
  injection h1 with _ h1
  exact h1.symm
end
theorem G7 (w:a0)(e:aV)(cells:List aD):∃g w',NewBk w w' g e cells∧w.heap.size=g∧w.alloc (.cells cells.toArray e)=w':=⟨_,_,NewBk.mk' w e cells,rfl,rfl⟩
section
variable {P:bV}{n:Nat}{l:Fr}{w w':a0}{d:Nat}{op:Op}{ty:aV}{pos:String}{af:Array Edge}{gd:Option (Nat×Bool)}
theorem F9 (hk:kI l op=true)(hr:∀w,(execOp (rho l) ⟨some d,op,ty,pos,af,gd⟩).run P w= .ok (.value (i9 (some ⟨w.heap.size,0,none⟩) k k)) (w.alloc (.cells cells.toArray e)))(hg:w.heap.size=g)(hw:w.alloc (.cells cells.toArray e)=w'):gB P n l ⟨some d,op,ty,pos,af,gd⟩ w (.value (i9 (some ⟨g,0,none⟩) k k)) w':=fun a f=>by
 subst hg;subst hw;rw [rJ hk f];exact hr w
theorem FA {r:aD}(hx:bP l x=some u)(hy:bP l y=some v)(hr:(Builtin.append_ #[t,t] ty #[u,v]).run P w= .ok r w'):gB P n l ⟨some d,.call {callee:= .builtin .append,args:= #[x,y],argTypes:= #[t,t]},ty,pos,af,gd⟩ w (.value r) w':=fun a e=>by
 unfold execOp
 simp only [resolve,invoke,builtin,cA,g0,eG,mG,iJ,j7,e.ev hx,e.ev hy]
 rw [hr]
 rfl
end
theorem Bk.byOK (h:Bk w g t vs)(ho:Own w lb T 1 A n c us)(hne:T≠t)(u:UpdO A w w'):Bk w' g t vs:=h.updO u (sO ho h hne)
def XE (w:a0)(lb g n:Nat)(ls:List Lst)(x:Lst)(u v:aD)(e:Ending)(w':a0):Prop:=
 e= .returned (.tuple #[])∧UpK lb w w'∧∃WA c,Bk w' g 47 [i9 WA (n+1) c,u,v]∧Own w' lb 22 1 WA (n+1) c ((ls++ [x]).map Lst.v)
theorem zV (h:Bk w g t [v]):∀j u,([v]:List aD)[j]?=some u→w.cell? ((⟨g,0,none⟩:a8).add j)=some u:=by
 intro j u hj
 rw [iE,eQ]
 obtain⟨h1,h2⟩:=fS.1 hj
 rw [h.cell h1,bE,hj];rfl
theorem AM (ls:List Lst)(A:Option a8)(n c:Nat):ls.map Lst.v++ [oD A n c]=(ls++ [(⟨A,n,c⟩:Lst)]).map Lst.v:=by simp [Lst.v]
theorem UpK.refl (lb:Nat)(w:a0):UpK lb w w:=UpK.of_ext lb (Ext.refl w)
theorem Q9 (h:Own w b 24 2 A n c us)(hi:i<n):∃p,A.map (·.add (i*2))=some p:=by
 have hl:=lU h
 obtain⟨a,e,_⟩:=h.rv.get (i*2) (by omega)
 rw [e];exact⟨_,rfl⟩
theorem Q7 (h:Own w b 24 2 A n c us)(hp:A.map (·.add (i*2))=some p)(hi:i<n)(hv:us[i*2+1]?=some v):w.cell? (p.add 1)=some v:=by
 have hl:=lU h
 obtain⟨a,o,f⟩:=h.rv.get (i*2+1) (by omega)
 subst o
 have e:=iG hp
 subst e
 rw [Go.Deep.add_add,f,bE,hv];rfl
theorem P1 (ls xs:List Lst)(h:i<xs.length):(ls++xs.take i)++ [⟨(xs.getD i Lst.z).A,(xs.getD i Lst.z).n,(xs.getD i Lst.z).c⟩]=ls++xs.take (i+1):=by
 rw [List.append_assoc,List.take_add_one,bE,bR h];rfl
def X5 (w:a0)(lb g n k:Nat)(ls ms xs:List Lst)(x:Lst)(v:aD)(e:Ending)(w':a0):Prop:=
 e= .returned (.tuple #[])∧UpK lb w w'∧∃WA c IA d,Bk w' g 47 [i9 WA (n+x.n) c,i9 IA (k+1) d,v]∧Own w' lb 22 1 WA (n+x.n) c ((ls++xs).map Lst.v)∧Own w' lb 25 1 IA (k+1) d ((ms++ [x]).map Lst.v)
theorem UP {iv nv:aD}(hB:Bk w g 47 [i9 WA n wc,iv,nv])(hW:Own w lb 22 1 WA n wc (ls.map Lst.v))(hlb:lb≤w.heap.size)(hg:lb≤g)(hn:n≤1099511600000){s:Bool}:aQ aH 18 #[a4 g 0,J s A m c] w (XE w lb g n ls ⟨A,m,c⟩ iv nv):=by
 refine bL Tryz.func18 G (n:=15) G (bq G) (args:= [a4 g 0,J s A m c]) (bF [(0,a4 g 0),(1,J s A m c)] ⟨rfl,rfl,up⟩ (sr (l7 G G (vs:= (O s A m c)) G fun Z v2 nb=>?_)))
 have ao:=nb.bk
 have aw:w.heap.size≤Z:=by rw [←nb.at_];exact (UpK.refl lb w).size
 have I:=nb.ext
 clear nb
 have aj:UpK lb w v2:=(UpK.refl lb w).trans (UpK.of_ext lb I)
 refine a1 (bF [(0,a4 g 0),(1,J s A m c),(3,a4 Z 0)] ⟨rfl,rfl,rfl,up⟩ ?_)
 obtain⟨v6,hv,H⟩:∃v,v=v2.drew∧Ext v2 v:=⟨_,rfl,aK.drew⟩
 have aq:UpK lb w v6:=aj.trans (UpK.of_ext lb H)
 obtain⟨g8,v9,E,ab,M⟩:=G7 v6 22 [i9 A m c]
 have V:=E.bk
 have q:=E.ext
 have aa:UpK lb w v9:=aq.trans (UpK.of_ext lb q)
 have f:=(hW.ext (I.t (H.t q)))
 obtain⟨e,h,p,U,D,r,_⟩:=vA (P:=aH) (ty:=36) kE sZ G (by decide) (by decide) f (aE hlb aa.size) (m:=1) (c:=1) (news:= [i9 A m c]) G (zV V) G (by omega)
 have o:=(hB.ext (I.t (H.t q))).byOK f (by decide) r
 rw [AM] at D
 have ai:UpK lb v9 p:=UpK.ofO (by simp) f r
 have ag:UpK lb w p:=aa.trans ai
 obtain⟨F,X,W,Y,_⟩:=sL (P:=aH) (v:= i9 e (n+1) h) (T:=36) (fun _=>by kernel_rfl) G o (show 0<3 by decide) G [i9 e (n+1) h,iv,nv] rfl
 have ar:UpK lb p F:=UpK.ofU o hg Y
 have L:=(D).updT o (by decide) Y
 have ak:UpK lb w F:=ag.trans ar
 refine J9 cQ (w:=v6) [a4 g 0,a4 g 0,a4 g 0,a4 g 0,i9 WA n wc,a4 Z 1,i9 A m c,i9 (some ⟨g8,0,none⟩) 1 1,i9 e (n+1) h,a4 g 0,a4 g 0,undef] [v6,v9,p,F] [7,8,11] [[],[],[1],[2],[3],[],[5],[6],[4,7],[0],[9],[8,10]] [[],[],[1],[1,2],[1,2,3],[],[5],[5,6],[1,2,3,4,5,6,7],[0,1,2,3,4,5,6,7,8],[0,1,2,3,4,5,6,7,8,9],[0,1,2,3,4,5,6,7,8,9,10]] [(0,0),(0,1),(0,2),(1,0),(1,1),(2,0),(2,1),(3,0),(3,1),(4,0),(4,1),(5,0),(6,0),(7,0),(8,1),(9,2),(10,2),(11,2)] G hv ?_ ?_
 ·refine eV _ G G G G G (bO G) (eV _ G G G G G (bO G) (eV _ G G G G G (bO G) (eV _ G G G G G (bO G) (eV _ G G G G G (bO G) (eV _ G G G G G (iN G) (eV _ G G G G G (iN G) (eV _ G G G G G (iN G) (eV _ G G G G G (iN G) (eV _ G G G G G (cH G (aP (fun _=>by kernel_rfl) (hB.ext (I.t H)) G)) (eV _ G G G G G (cH G (aP (fun _=>by kernel_rfl) (hB.ext (I.t (H.t q))) G)) (eV _ G G G G G (iN G) (eV _ G G G G G (cH G (aP bX (ao.ext H) G)) (wT _ G G G G G G (F9 G (fun _=>by kernel_rfl) ab M) ?_)))))))))))))
  refine wT _ G G G G G G (FA G G U) (eV _ G G G G G (iN G) (eV _ G G G G G (iN G) (IW _ G G G G G G (eO G G X) ?_)))
  exact IX
 clear hv
 refine fX [(0,a4 g 0),(1,J s A m c),(3,a4 Z 0),(4,a4 g 0),(5,a4 g 0),(6,a4 g 0),(7,a4 g 0),(8,i9 WA n wc),(9,a4 Z 1),(10,i9 A m c),(11,i9 (some ⟨g8,0,none⟩) 1 1),(12,i9 e (n+1) h),(13,a4 g 0),(14,a4 g 0)] ⟨rfl,rfl,rfl,rfl,rfl,rfl,rfl,rfl,rfl,rfl,rfl,rfl,rfl,rfl,up⟩ (nZ [] G up ?_)
 exact⟨rfl,ak,e,h,W,L⟩
theorem IO {nv:aD}{ms xs:List Lst}(hB:Bk w g 47 [i9 WA n wc,i9 IA k ic,nv])(hW:Own w lb 22 1 WA n wc (ls.map Lst.v))(hI:Own w lb 25 1 IA k ic (ms.map Lst.v))(hlb:lb≤w.heap.size)(hg:lb≤g)(hL:Own w b 24 2 A m c us)(hlx:xs.length=m)(hxs:∀i,i<m→us[i*2+1]?=some (xs.getD i Lst.z).v)(hn:n+m≤1099511600000)(hk:k≤1099511600000):aQ aH 19 #[a4 g 0,i9 A m c] w (X5 w lb g n k ls ms xs ⟨A,m,c⟩ nv):=by
 refine bL Tryz.func19 G (n:=35) G (bq G) (args:= [a4 g 0,i9 A m c]) (bF [(0,a4 g 0),(1,i9 A m c)] ⟨rfl,rfl,up⟩ (sr (mv 2 G (pf g 0 G (pf g 1 G (aL G G (aP (fun _=>by kernel_rfl) hB G) (mv 1 G (fW G G (k:=1) (e:=25) [i9 A m c] (fun _=>by kernel_rfl) fun _ v2 az=>?_))))))))
 have cm:=az.bk
 have e7:=az.ext
 have I:UpK lb w v2:=(UpK.refl lb w).trans (UpK.of_ext lb e7)
 have D:=(hI.ext e7)
 refine oM G G G oP GX G D (aE hlb I.size) [i9 A m c] G (zV cm) G fun A8 c9 ai ag L _=>?_
 have q:=(hB.ext e7).byOK D (by decide) L
 rw [AM] at ag
 have cg:UpK lb v2 ai:=UpK.ofO (by simp) D L
 have bi:=((hW.ext e7)).updOT D (by decide) L
 have ao:UpK lb w ai:=I.trans cg
 refine pf g 0 G (pf g 1 G (d6 G G G (fun _=>by kernel_rfl) G q (show 1<3 by decide) G [i9 WA n wc,i9 A8 (k+1) c9,nv] G fun ar bo ah _=>?_))
 have ce:UpK lb ai ar:=UpK.ofU q hg ah
 have au:=(bi).updT q (by decide) ah
 have bf:=(ag).updT q (by decide) ah
 have X:UpK lb w ar:=ao.trans ce
 refine a1 (sr (mv 1 G (a1 (bI ?_))))
 refine cU (T:=a0×Nat×Option a8×Nat)
  (fun⟨wr,i,WB,o⟩=> [(0,a4 g 0),(1,i9 A m c),(4,a9 i)])
  (fun⟨wr,i,WB,o⟩=>wr)
  (fun⟨wr,i,WB,o⟩=>(UpK lb w wr)∧(Bk wr g 47 [i9 WB (n+i) o,i9 A8 (k+1) c9,nv])∧(Own wr lb 22 1 WB (n+i) o ((ls++xs.take i).map Lst.v))∧(Own wr lb 25 1 A8 (k+1) c9 ((ms++ [(⟨A,m,c⟩:Lst)]).map Lst.v))∧(Own wr b 24 2 A m c us)∧(i≤m))
  (fun⟨wr,i,WB,o⟩=>m-i)
  (⟨ar,0,_,_⟩:a0×Nat×Option a8×Nat) ⟨X,bo,(by rw [List.take_zero,List.append_nil];exact au),bf,(ce.own (cg.own (hL.ext e7) (by decide) (by decide) (by decide)) (by decide) (by decide) (by decide)),(bJ _)⟩ G ⟨rfl,rfl,rfl,up⟩ ?_
 rintro⟨wr,i,WB,o⟩ ⟨I,M,aj,bv,ak,hi⟩
 refine cR [(0,a4 g 0),(1,i9 A m c),(4,a9 i)] wr G ⟨rfl,rfl,rfl,up⟩ (a7 (a7 ?_))
 by_cases cv:i<m
 ·refine a6 (mv 2 G (pu (v:= a9 m) G (aA G G G true (dG (a:=i) (b:=m) G G) (a1 (aY G (aW (aC (a7 (bI (bF [(0,a4 g 0),(1,i9 A m c),(4,a9 i),(15,a9 i),(16,i9 A m c),(17,a9 m),(18,no)] ⟨rfl,rfl,rfl,rfl,rfl,rfl,rfl,up⟩ ?_))))))))))
  obtain⟨Y,hv,f⟩:∃v,v=wr.drew∧Ext wr v:=⟨_,rfl,aK.drew⟩
  have ao:UpK lb w Y:=I.trans (UpK.of_ext lb f)
  obtain⟨H,ae⟩:=Q9 (ak.ext f) (i:=i) (by omega)
  obtain⟨ch,am,aa,bt,av⟩:=G7 Y 22 [i9 ((xs.getD i Lst.z).A) ((xs.getD i Lst.z).n) ((xs.getD i Lst.z).c)]
  have bd:=aa.bk
  have E:=aa.ext
  have X:UpK lb w am:=ao.trans (UpK.of_ext lb E)
  have p:=(aj.ext (f.t E))
  obtain⟨Z,V,W,bw,ab,F,_⟩:=vA (P:=aH) (ty:=36) kE sZ G (by decide) (by decide) p (aE hlb X.size) (m:=1) (c:=1) (news:= [i9 ((xs.getD i Lst.z).A) ((xs.getD i Lst.z).n) ((xs.getD i Lst.z).c)]) G (zV bd) G (by omega)
  have r:=(M.ext (f.t E)).byOK p (by decide) F
  rw [AM] at ab
  have bh:UpK lb am W:=UpK.ofO (by simp) p F
  have bu:=((bv.ext (f.t E))).updOT p (by decide) F
  have ck:UpK lb w W:=X.trans bh
  obtain⟨U,ba,bm,aq,_⟩:=sL (P:=aH) (v:= i9 Z (n+i+1) V) (T:=36) (fun _=>by kernel_rfl) G r (show 0<3 by decide) G [i9 Z (n+i+1) V,i9 A8 (k+1) c9,nv] rfl
  have cf:UpK lb W U:=UpK.ofU r hg aq
  have bz:=(ab).updT r (by decide) aq
  have aw:=(bu).updT r (by decide) aq
  have co:UpK lb w U:=ck.trans cf
  refine J9 cQ (w:=Y) [a4 g 0,a4 g 0,a4 g 0,a4 g 0,i9 WB (n+i) o,i9 A m c,a9 i,.pointer (some H),.pointer (some (H.add 1)),i9 ((xs.getD i Lst.z).A) ((xs.getD i Lst.z).n) ((xs.getD i Lst.z).c),i9 (some ⟨ch,0,none⟩) 1 1,i9 Z (n+i+1) V,a4 g 0,a4 g 0,undef] [Y,am,W,U] [10,11,14] [[],[],[1],[2],[3],[],[],[5,6],[7],[8],[9],[4,10],[0],[12],[11,13]] [[],[],[1],[1,2],[1,2,3],[],[],[5,6],[5,6,7],[5,6,7,8],[5,6,7,8,9],[1,2,3,4,5,6,7,8,9,10],[0,1,2,3,4,5,6,7,8,9,10,11],[0,1,2,3,4,5,6,7,8,9,10,11,12],[0,1,2,3,4,5,6,7,8,9,10,11,12,13]] [(0,0),(0,1),(0,2),(1,0),(1,1),(2,0),(2,1),(3,0),(3,1),(4,0),(4,1),(5,0),(6,0),(7,0),(8,0),(9,0),(10,0),(11,1),(12,2),(13,2),(14,2)] G hv ?_ ?_
  ·refine eV _ G G G G G (bO G) (eV _ G G G G G (bO G) (eV _ G G G G G (bO G) (eV _ G G G G G (bO G) (eV _ G G G G G (bO G) (eV _ G G G G G (iN G) (eV _ G G G G G (iN G) (eV _ G G G G G (iN G) (eV _ G G G G G (iN G) (eV _ G G G G G (cH G (aP (fun _=>by kernel_rfl) (M.ext f) G)) (eV _ G G G G G (cH G (aP (fun _=>by kernel_rfl) (M.ext (f.t E)) G)) (eV _ G G G G G (bO G) (eV _ G G G G G (bO G) (eV _ G G G G G (gZ G G fQ aB.size i G H ae) ?_)))))))))))))
   refine eV _ G G G G G (iN G) (eV _ G G G G G (cH G (cT (fun _=>by kernel_rfl) (Q7 (ak.ext f) ae (by omega) (hxs i (by omega))))) (wT _ G G G G G G (F9 G (fun _=>by kernel_rfl) bt av) (wT _ G G G G G G (FA G G bw) (eV _ G G G G G (iN G) (eV _ G G G G G (iN G) (IW _ G G G G G G (eO G G ba) ?_))))))
   exact IX
  clear hv
  refine fX [(0,a4 g 0),(1,i9 A m c),(4,a9 i),(15,a9 i),(16,i9 A m c),(17,a9 m),(18,no),(21,a4 g 0),(22,a4 g 0),(23,a4 g 0),(24,a4 g 0),(25,i9 WB (n+i) o),(26,i9 A m c),(27,a9 i),(28,.pointer (some H)),(29,.pointer (some (H.add 1))),(30,i9 ((xs.getD i Lst.z).A) ((xs.getD i Lst.z).n) ((xs.getD i Lst.z).c)),(31,i9 (some ⟨ch,0,none⟩) 1 1),(32,i9 Z (n+i+1) V),(33,a4 g 0),(34,a4 g 0)] ⟨rfl,rfl,rfl,rfl,rfl,rfl,rfl,rfl,rfl,rfl,rfl,rfl,rfl,rfl,rfl,rfl,rfl,rfl,rfl,rfl,rfl,up⟩ (bG (aC (a6 (mv 1 G (aR G G G ((i+1:Nat):Int) (bN (a:=i) (b:=1) G G) (mv 1 G (aS (bW (⟨U,i+1,_,_⟩:a0×Nat×Option a8×Nat) ⟨co,bm,(by have h:=bz;rwa [P1 ls xs (by omega)] at h),aw,(cf.own (bh.own (ak.ext (f.t E)) (by decide) (by decide) (by decide)) (by decide) (by decide) (by decide)),(by omega)⟩ (show m-(i+1)<m-i by omega) G ⟨rfl,rfl,rfl,up⟩))))))))
 ·refine a6 (mv 2 G (pu (v:= a9 m) G (aA G G G false (cW (a:=i) (b:=m) G G) (a1 (aN G (cN (cI (cL (cM (nZ [] G up ?_))))))))))
  have cj:i=m:=by omega
  subst cj
  rw [List.take_of_length_le (by omega)] at aj
  exact⟨rfl,I,WB,o,A8,c9,M,aj,bv⟩
def DE (x j:Nat):Nat:=((3*x%18446744073709551616+j)%18446744073709551616+1)%18446744073709551616
def dI (i:Nat)(xs:List Nat):List Nat:=(fI i).map (fun j=>DE (xs.getD j 0) j)++xs.drop i
theorem M9 (xs:List Nat):dI 0 xs=xs:=by unfold dI;simp
theorem jT (h:i≤xs.length):(dI i xs).length=xs.length:=by unfold dI;rw [eN,List.length_map,List.length_range,List.length_drop];omega
theorem MB (h:i<xs.length):(dI i xs).getD i 0=xs.getD i 0:=by
 unfold dI
 rw [bE,List.getElem?_append_right (by rw [List.length_map,List.length_range];exact aX _),List.length_map,List.length_range,Nat.sub_self,List.getElem?_drop,Nat.add_zero,←bE]
theorem MA (h:i<xs.length):(dI i xs).set i (DE (xs.getD i 0) i)=dI (i+1) xs:=by
 unfold dI
 have e:xs.drop i=xs.getD i 0::xs.drop (i+1):=V4 h
 rw [List.set_append_right _ _ (by rw [List.length_map,List.length_range];exact aX _),List.length_map,List.length_range,Nat.sub_self,e,List.set_cons_zero,List.range_succ,List.map_append,List.append_assoc]
 rfl
theorem oT (h:Wf xs):Wf (dI i xs):=by
 intro x hx
 unfold dI at hx
 rcases List.mem_append.1 hx with hx | hx
 ·obtain⟨j,_,rfl⟩:=List.mem_map.1 hx
  exact Nat.mod_lt _ (by decide)
 ·exact h x (List.mem_of_mem_drop hx)
theorem JT {A B:Int}(ha:A=(a:Int))(hb:B=(b:Int)):eJ .add .u64 A B=some (((a+b)%18446744073709551616:Nat):Int):=by
 subst ha hb;simp only [eJ,eH];rw [←Int.natCast_add];exact lS _
theorem WO {A B:Int}(ha:A=(a:Int))(hb:B=(b:Int)):eJ .mul .u64 A B=some ((a*b%18446744073709551616:Nat):Int):=by
 subst ha hb;simp only [eJ,eH];rw [←Int.natCast_mul];exact lS _
theorem M8 (h:i<xs.length):(dI i xs++ms).set i ((((3*(dI i xs++ms).getD i 0)%18446744073709551616+i)%18446744073709551616+1)%18446744073709551616)=dI (i+1) xs++ms:=by
 have h1:i<(dI i xs).length:=by rw [jT (by omega)];exact h
 have e:(dI i xs++ms).getD i 0=xs.getD i 0:=by
  rw [bE,List.getElem?_append_left h1,←bE,MB h]
 rw [e,List.set_append_left _ _ h1]
 exact congrArg (· ++ms) (MA h)
def X2 (g:Nat)(xs ms:List Nat)(w:a0)(e:Ending)(w':a0):Prop:=e= .returned (.tuple #[])∧Upd g w w'∧Bk w' g 65 ((dI xs.length xs++ms).map bC)
structure UpT (lo hi:Nat)(w w':a0):Prop where
 os:w'.os=w.os
 tape:w'.tape=w.tape
 output:w'.output=w.output
 size:w.heap.size≤w'.heap.size
 out:∀k,k<w.heap.size→(k<lo∨hi≤k)→w'.heap[k]?=w.heap[k]?
 typ:∀(k:Nat) (cs:Array aD) (t:aV) (fr:Nat×Nat),w.heap[k]?=some (.cells cs t fr)→t≠65→w'.heap[k]?=some (.cells cs t fr)
section
variable {lo hi:Nat}{a b c w w':a0}
theorem UpT.trans (h:UpT lo hi a b)(e:UpT lo hi b c):UpT lo hi a c:=
 ⟨e.os.trans h.os,e.tape.trans h.tape,e.output.trans h.output,aE h.size e.size,fun k f hs=>(e.out k (cS f h.size) hs).trans (h.out k f hs),fun k cs t fr o h1=>e.typ k cs t fr (h.typ k cs t fr o h1) h1⟩
theorem UpT.of_ext (lo hi:Nat)(e:Ext w w'):UpT lo hi w w':=⟨e.below.os,e.below.tape,e.below.output,e.size,fun k hs _=>e.below.block k hs,fun _ _ _ _ f _=>e.heap f⟩
theorem UpT.of_upd (hb:Bk w g 65 vs)(h1:lo≤g)(h2:g<hi)(u:Upd g w w'):UpT lo hi w w':=by
 refine⟨u.by_.os,u.by_.tape,u.by_.output,u.by_.size,fun k h hs=>u.by_.block k h (fun e=>by injection e with e;omega),fun k cs t fr f ht=>u.heap f fun e=>ht ?_⟩
 subst e
 unfold Bk at hb
 rw [hb] at f
 injection f with f
 injection f with _ f
 exact f.symm
theorem UpT.ext (h:UpT lo hi w w')(e:Ext a w)(hl:a.heap.size≤lo):Ext a w':=
 ⟨⟨h.os.trans e.below.os,h.tape.trans e.below.tape,h.output.trans e.below.output,aE e.size h.size,fun k f=>(h.out k (cS f e.size) (cD (cS f hl))).trans (e.below.block k f)⟩⟩
theorem UpT.bk (h:UpT lo hi w w')(hb:Bk w g t vs)(h1:t≠65):Bk w' g t vs:=h.typ g _ _ _ hb h1
theorem UpT.bkO (h:UpT lo hi w w')(hb:Bk w g t vs)(h1:g<lo∨hi≤g):Bk w' g t vs:=(h.out g hb.lt h1).trans hb
theorem UpT.ownT (h:UpT lo hi w w')(ho:Own w base t s A n cap vs)(h1:t≠65):Own w' base t s A n cap vs:=by
 rcases ho with ho | ⟨g,cs,f,hb,e,r⟩
 ·exact cD ho
 ·exact bT ⟨g,cs,f,hb,h.bk e h1,r⟩
theorem UpT.own (h:UpT lo hi w w')(ho:Own w base t s A n cap vs)(h1:∀p,A=some p→p.block<lo∨hi≤p.block):Own w' base t s A n cap vs:=by
 rcases ho with ho | ⟨g,cs,e,hb,f,r⟩
 ·exact cD ho
 ·exact bT ⟨g,cs,e,hb,h.bkO f (h1 _ e),r⟩
end
section
variable {w w':a0}{lo n:Nat}{γ:Nat→Nat}{ω:Nat→List Nat}
theorem Bk.updOT (h:Bk w g t vs)(ho:Own w lb T s A m c us)(hT:T≠t)(u:UpdO A w w'):Bk w' g t vs:=h.updO u (sO ho h hT)
theorem Bk.updTT (h:Bk w g t vs)(hb:Bk w k T us)(hT:t≠T)(u:Upd k w w'):Bk w' g t vs:=h.updN u fun e=>by
 subst e
 unfold Bk at h hb
 rw [h] at hb
 injection hb with hb
 injection hb with _ hb
 exact hT hb
def Fam (w:a0)(lo n:Nat)(γ:Nat→Nat)(ω:Nat→List Nat):Prop:=
 (∀j,j<n→lo≤γ j∧Wf (ω j)∧Bk w (γ j) 65 ((ω j++eM (ω j).length).map bC))∧∀i j,i<j→j<n→γ i<γ j
theorem Fam.ext (h:Fam w lo n γ ω)(e:Ext w w'):Fam w' lo n γ ω:=⟨fun j hj=>⟨(h.1 j hj).1,(h.1 j hj).2.1,(h.1 j hj).2.2.ext e⟩,h.2⟩
theorem Fam.updT (h:Fam w lo n γ ω)(hb:Bk w g T us)(hT:65≠T)(u:Upd g w w'):Fam w' lo n γ ω:=⟨fun j hj=>⟨(h.1 j hj).1,(h.1 j hj).2.1,(h.1 j hj).2.2.updTT hb hT u⟩,h.2⟩
theorem Fam.updOT (h:Fam w lo n γ ω)(ho:Own w b T s A m c us)(hT:T≠65)(u:UpdO A w w'):Fam w' lo n γ ω:=⟨fun j hj=>⟨(h.1 j hj).1,(h.1 j hj).2.1,(h.1 j hj).2.2.updOT ho hT u⟩,h.2⟩
theorem Fam.lt (h:Fam w lo n γ ω)(hj:j<n):γ j<w.heap.size:=(h.1 j hj).2.2.lt
theorem Fam.zero:Fam w lo 0 γ ω:=⟨fun _ h=>absurd h (Nat.not_lt_zero _),fun _ _ _ h=>absurd h (Nat.not_lt_zero _)⟩
theorem Fam.snoc (h:Fam w lo n γ ω)(hw:Wf (ω n))(hb:Bk w g 65 ((ω n++eM (ω n).length).map bC))(hlo:lo≤g)(hg:∀j,j<n→γ j<g):Fam w lo (n+1) (fun j=>if j=n then g else γ j) ω:=by
 refine⟨fun j hj=>?_,fun i j f hj=>?_⟩
 ·by_cases e:j=n
  ·subst e;simp only [if_true];exact⟨hlo,hw,hb⟩
  ·simp only [if_neg e];exact h.1 j (by omega)
 ·by_cases e:j=n
  ·subst e;simp only [if_true];rw [if_neg (by omega)];exact hg i f
  ·simp only [if_neg e];rw [if_neg (by omega)];exact h.2 i j f (by omega)
theorem Fam.inj (h:Fam w lo n γ ω)(hi:i<n)(hj:j<n)(e:γ i=γ j):i=j:=by
 rcases Nat.lt_trichotomy i j with h1 | h1 | h1
 ·have:=h.2 i j h1 hj;omega
 ·exact h1
 ·have:=h.2 j i h1 hi;omega
def tU (k:Nat)(ω:Nat→List Nat)(j:Nat):List Nat:=if j<k then dI (ω j).length (ω j) else ω j
theorem jU (k j:Nat):(tU k ω j).length=(ω j).length:=by
 unfold tU
 split
 ·exact jT (aX _)
 ·rfl
theorem DQ:tU 0 ω=ω:=by funext j;unfold tU;rw [if_neg (Nat.not_lt_zero _)]
theorem yS (k:Nat):tU k ω k=ω k:=by unfold tU;rw [if_neg (Nat.lt_irrefl _)]
theorem Fam.turn (h:Fam w lo n γ (tU k ω))(hk:k<n)(u:Upd (γ k) w w')(hb:Bk w' (γ k) 65 ((dI (ω k).length (ω k)++eM (ω k).length).map bC)):Fam w' lo n γ (tU (k+1) ω):=by
 refine⟨fun j hj=>?_,h.2⟩
 obtain⟨h1,h2,q⟩:=h.1 j hj
 by_cases e:j=k
 ·subst e
  rw [yS] at h2
  have o:tU (j+1) ω j=dI (ω j).length (ω j):=by unfold tU;rw [if_pos (by omega)]
  rw [o,jT (aX _)]
  exact⟨h1,oT h2,hb⟩
 ·have o:tU (k+1) ω j=tU k ω j:=by
   unfold tU
   by_cases f:j<k
   ·rw [if_pos f,if_pos (by omega)]
   ·rw [if_neg f,if_neg (by omega)]
  rw [o]
  exact⟨h1,h2,q.updN u fun p=>e (h.inj hj hk p)⟩
end
def Cz (us:List aD)(n:Nat)(σ:Nat→Bool)(γ:Nat→Nat)(ω:Nat→List Nat):Prop:=∀j,j<n→us[j*2]?=some (.bool (σ j))∧us[j*2+1]?=some (.slice (some ⟨γ j,0,none⟩) (ω j).length ((ω j).length+80))
def Cw (us:List aD)(n:Nat)(γ:Nat→Nat)(ω:Nat→List Nat):Prop:=∀j,j<n→us[j]?=some (i9 (some ⟨γ j,0,none⟩) ((ω j).length+80) ((ω j).length+80))
theorem Cz.snoc {σ:Nat→Bool}{γ:Nat→Nat}{ω:Nat→List Nat}(h:Cz us n σ γ ω)(hl:n*2+1<us.length):Cz ((us.set (n*2) (.bool (σ n))).set (n*2+1) (.slice (some ⟨g,0,none⟩) (ω n).length ((ω n).length+80))) (n+1) σ (fun j=>if j=n then g else γ j) ω:=fun j hj=>by
 by_cases e:j=n
 ·subst e
  exact⟨by rw [List.getElem?_set_ne (by omega),List.getElem?_set_self (by omega)],by rw [List.getElem?_set_self (by rw [List.length_set];exact hl)];simp only [if_true]⟩
 ·simp only [if_neg e]
  exact⟨by rw [List.getElem?_set_ne (by omega),List.getElem?_set_ne (by omega)];exact (h j (by omega)).1,by rw [List.getElem?_set_ne (by omega),List.getElem?_set_ne (by omega)];exact (h j (by omega)).2⟩
theorem Cz.far {σ:Nat→Bool}{γ:Nat→Nat}{ω:Nat→List Nat}(h:Cz us n σ γ ω)(hi:n≤i):Cz ((us.set (i*2) u0).set (i*2+1) u1) n σ γ ω:=fun j hj=>
 ⟨by rw [List.getElem?_set_ne (by omega),List.getElem?_set_ne (by omega)];exact (h j hj).1,by rw [List.getElem?_set_ne (by omega),List.getElem?_set_ne (by omega)];exact (h j hj).2⟩
theorem Cw.snoc {γ:Nat→Nat}{ω:Nat→List Nat}(h:Cw us n γ ω)(hl:n<us.length):Cw (us.set n (i9 (some ⟨g,0,none⟩) ((ω n).length+80) ((ω n).length+80))) (n+1) (fun j=>if j=n then g else γ j) ω:=fun j hj=>by
 by_cases e:j=n
 ·subst e;rw [List.getElem?_set_self hl];simp only [if_true]
 ·simp only [if_neg e];rw [List.getElem?_set_ne (by omega)];exact h j (by omega)
def Zw (w:a0)(A:Option a8)(n cap:Nat)(σ:Nat→Bool)(ω:Nat→List Nat):Prop:=n≤cap∧cap≤maxLen∧∀i,i<n→∃a B c,A=some a∧w.cell? (a.add (i*2))=some (.bool (σ i))∧w.cell? (a.add (i*2+1))=some (.slice B (ω i).length c)∧Rd w B (ω i).length c (ω i)
def gY (n:Nat)(σ:Nat→Bool)(ω:Nat→List Nat):List Int:=(fI n).map fun i=>sg (σ i) (nv (ω i))
def qV (n:Nat)(ω:Nat→List Nat):List Nat:=(fI n).map fun i=>(ω i).length
theorem KM {σ:Nat→Bool}{ω:Nat→List Nat}(hi:i<n):(gY n σ ω).getD i 0=sg (σ i) (nv (ω i)):=by
 unfold gY;rw [bE,iK,List.getElem?_range hi];rfl
theorem G6 {ω:Nat→List Nat}(hi:i<n):(qV n ω).getD i 0=(ω i).length:=by
 unfold qV;rw [bE,iK,List.getElem?_range hi];rfl
theorem lW {ω:Nat→List Nat}(h:∀i,i<n→(ω i).length≤K)(i:Nat):(qV n ω).getD i 0≤K:=by
 by_cases hi:i<n
 ·rw [G6 hi];exact h i hi
 ·unfold qV;rw [bE,iK,gW (by rw [List.length_range];omega)];exact bJ _
section
variable {w w':a0}{A:Option a8}{n cap:Nat}{σ:Nat→Bool}{ω:Nat→List Nat}
theorem Zw.ext (h:Zw w A n cap σ ω)(e:Ext w w'):Zw w' A n cap σ ω:=⟨h.1,h.2.1,fun i hi=>by
 obtain⟨a,B,c,h1,h2,o,f⟩:=h.2.2 i hi
 exact⟨a,B,c,h1,e.cell h2,e.cell o,f.ext e⟩⟩
theorem Zw.zl (h:Zw w A n cap σ ω):Zl w A n cap (gY n σ ω) (qV n ω):=by
 refine⟨by unfold gY;rw [List.length_map,List.length_range],by unfold qV;rw [List.length_map,List.length_range],h.1,h.2.1,fun i hi=>?_⟩
 obtain⟨a,B,c,h1,h2,f,e⟩:=h.2.2 i hi
 rw [G6 hi,KM hi]
 exact⟨a,σ i,B,c,h1,h2,f,ω i,e,rfl⟩
theorem Zl.zw (h:Zl w A n cap zs ms):∃σ ω,Zw w A n cap σ ω∧zs=gY n σ ω∧∀i,i<n→(ω i).length=ms.getD i 0:=by
 have key:∀i,∃s xs,i<n→∃a B c,A=some a∧w.cell? (a.add (i*2))=some (.bool s)∧w.cell? (a.add (i*2+1))=some (i9 B (ms.getD i 0) c)∧Rd w B (ms.getD i 0) c xs∧sg s (nv xs)=zs.getD i 0:=fun i=>by
  by_cases hi:i<n
  ·obtain⟨a,s,B,c,h1,h2,o,xs,e,f⟩:=h.get i hi
   exact⟨s,xs,fun _=>⟨a,B,c,h1,h2,o,e,f⟩⟩
  ·exact⟨false,[],fun h=>absurd h hi⟩
 obtain⟨σ,key⟩:=Classical.axiomOfChoice key
 obtain⟨ω,key⟩:=Classical.axiomOfChoice key
 have hl:∀i,i<n→(ω i).length=ms.getD i 0:=fun i hi=>by
  obtain⟨_,_,_,_,_,_,e,_⟩:=key i hi
  exact e.len
 refine⟨σ,ω,⟨h.le,h.max,fun i hi=>?_⟩,?_,hl⟩
 ·obtain⟨a,B,c,h1,h2,o,e,_⟩:=key i hi
  rw [hl i hi]
  exact⟨a,B,c,h1,h2,o,e⟩
 ·apply List.ext_getElem?
  intro i
  unfold gY
  by_cases hi:i<n
  ·obtain⟨_,_,_,_,_,_,_,f⟩:=key i hi
   rw [iK,List.getElem?_range hi,bR (by rw [h.len];exact hi)]
   rw [bE,bR (by rw [h.len];exact hi)] at f
   simp only [pP,f,Option.getD_some]
  ·rw [gW (by rw [h.len];omega),gW (by rw [List.length_map,List.length_range];omega)]
theorem Zw.at_ (h:Zw w A n cap σ ω)(hi:i<n):∃p B c,A.map (·.add (i*2))=some p∧(∀w',Ext w w'→∀(P:bV) (T:aV),AggT P T 2→(loadVar T p).run P w'= .ok (.agg #[.bool (σ i),.slice B (ω i).length c]) w')∧(∀w',Ext w w'→w'.cell? (p.add 1)=some (.slice B (ω i).length c))∧Rd w B (ω i).length c (ω i):=by
 obtain⟨a,B,c,rfl,h1,h2,o⟩:=h.2.2 i hi
 refine⟨a.add (i*2),B,c,rfl,fun w' e P T f=>sW f [.bool (σ i),.slice B (ω i).length c] G (fun j hj=>?_),fun w' e=>?_,o⟩
 ·rw [rM]
  match j,hj with
  | 0,_=>exact e.cell h1
  | 1,_=>exact e.cell h2
 ·rw [rM];exact e.cell h2
theorem nH {lo lo':Nat}{γ:Nat→Nat}{ω0:Nat→List Nat}(ho:Own w lo 24 2 A m cap us)(hc:Cz us n σ γ ω0)(hf:Fam w lo' n γ ω)(hl:∀j,(ω j).length=(ω0 j).length)(hn:n≤m)(hK:∀j,j<n→(ω j).length≤1048576):Zw w A n cap σ ω:=by
 refine⟨aE hn ho.rv.le,ho.rv.max,fun i hi=>?_⟩
 obtain⟨f,h⟩:=hc i hi
 have q:=lU ho
 obtain⟨a,e,h1⟩:=ho.rv.get (i*2) (by omega)
 obtain⟨a',ha',h2⟩:=ho.rv.get (i*2+1) (by omega)
 rw [e] at ha';cases ha'
 rw [bE,f] at h1
 rw [bE,h,←hl i] at h2
 obtain⟨_,p,o⟩:=hf.1 i hi
 exact⟨a,_,_,e,h1,h2,jX o G p (aE (hK i hi) (by decide))⟩
end
theorem qN (h:Own w b 24 2 A n c us)(hi:i<n)(h0:us[i*2]?=some u0)(h1:us[i*2+1]?=some u1):∃p,A.map (·.add (i*2))=some p∧(∀w',Ext w w'→∀(P:bV) (T:aV),AggT P T 2→(loadVar T p).run P w'= .ok (.agg #[u0,u1]) w'):=by
 have r:=lU h
 obtain⟨a,f,h2⟩:=h.rv.get (i*2) (by omega)
 obtain⟨a',ha',o⟩:=h.rv.get (i*2+1) (by omega)
 rw [f] at ha';cases ha'
 rw [bE,h0] at h2
 rw [bE,h1] at o
 refine⟨a.add (i*2),by rw [f];rfl,fun w' e P T q=>sW q [u0,u1] G (fun j hj=>?_)⟩
 rw [rM]
 match j,hj with
 | 0,_=>exact e.cell h2
 | 1,_=>exact e.cell o
theorem Q8 (h:Own w b 22 1 A n c us)(hi:i<n)(h0:us[i]?=some u0):∃p,A.map (·.add (i*1))=some p∧w.cell? p=some u0:=by
 have e:us.length=n:=by have:=h.rv.len;omega
 obtain⟨a,f,h2⟩:=h.rv.get i (by omega)
 rw [bE,h0] at h2
 exact⟨a.add (i*1),by rw [f];rfl,by rw [dK];exact h2⟩
section
variable {Q:Exit→Act→a0→Prop}{N:Nat}{l:Fr}{w:a0}{ops:Array bB}{rest:List bB}{ty:aV}{pos:String}{af:Array Edge}{gd:Option (Nat×Bool)}
theorem yJ (hw:d5 ops l gd=some true)(hx:bP l x=some (.pointer (some p)))(hy:bP l y=some (.agg #[u0,u1]))(h:Own w lb 24 2 A n c vs)(h0:u0.oneCell'=true)(h1:u1.oneCell'=true)(hp:A.map (·.add (i*2))=some p)(k:∀w',Own w' lb 24 2 A n c ((vs.set (i*2) u0).set (i*2+1) u1)→UpdO A w w'→wl aH ops Q N rest l w')(hi:i<n:=by omega):wl aH ops Q N (⟨none,.store 24 x y,ty,pos,af,gd⟩::rest) l w:=by
 obtain⟨w',hr,h2,e⟩:=FL h hi h0 h1 hp
 exact qA hw hx hy hr (k w' h2 e)
theorem LB (hw:d5 ops l gd=some true)(hx:bP l x=some (.pointer (some p)))(hy:bP l y=some u)(h:Own w lb 22 1 A n c vs)(hi:i<n)(h0:u.cells= #[u])(h1:u.oneCell'=true)(hp:A.map (·.add (i*1))=some p)(k:∀w',Own w' lb 22 1 A n c (vs.set i u)→UpdO A w w'→wl aH ops Q N rest l w'):wl aH ops Q N (⟨none,.store 22 x y,ty,pos,af,gd⟩::rest) l w:=by
 rcases h with⟨rfl,rfl,rfl,h⟩ | ⟨g,cs,rfl,hb,f,hn,q,hl,o⟩
 ·omega
 ·rw [dK] at hp o hl
  have e:p=⟨g,i,none⟩:=by
   have h2:=iG hp
   rw [←h2];simp [Addr.add];omega
  subst e
  refine d6 hw hx hy (fun _=>by kernel_rfl) h0 f (by omega) h1 _ G fun w' h2 r _=>k w' (bT ⟨g,_,rfl,hb,h2,hn,q,by rw [List.length_set,dK];exact hl,?_⟩) r.updO
  rw [dK,List.take_set,o]
end
theorem qP {x:Nat}(h:Bk w g 65 [i5 (x:Int)])(hx:x<18446744073709551616:=by decide):Rd w (some ⟨g,0,none⟩) 1 1 [x]:=by
 have h1:=Bk.rd (xs:= [x]) h (fun y e=>by rw [List.mem_singleton] at e;subst e;rw [cC];exact hx) (o:=0) (n:=1) (cap:=1) (by decide) (aX _) (by rw [eA];decide)
 exact h1
theorem CP {σ:Nat→Bool}{ω:Nat→List Nat}(h:Zw w A n cap σ ω)(hi:i<n):∃p,A.map (·.add (i*2))=some p∧∃B c,(∀w',Ext w w'→∀(P:bV) (T:aV),AggT P T 2→(loadVar T p).run P w'= .ok (.agg #[.bool (σ i),.slice B (ω i).length c]) w')∧(∀w',Ext w w'→w'.cell? (p.add 1)=some (.slice B (ω i).length c))∧Rd w B (ω i).length c (ω i):=by
 obtain⟨p,B,c,h1,h2⟩:=h.at_ hi
 exact⟨p,h1,B,c,h2⟩
def XB (b:Nat)(s:Bool)(xs:List Nat)(v:aD)(w:a0):Prop:=∃g,v= .tuple #[.agg #[.bool s,i9 (some ⟨g,0,none⟩) xs.length (xs.length+80)],i9 (some ⟨g,0,none⟩) (xs.length+80) (xs.length+80)]∧b≤g∧Bk w g 65 ((xs++eM xs.length).map bC)
theorem wG (hx:Rd w Aa xs.length ca xs)(hal:xs.length≤1048576):aQ aH 11 #[J sa Aa xs.length ca] w (Gv w (XB w.heap.size sa xs)):=by
 refine bL Tryz.func11 G (n:=17) G (bq G) (args:= [J sa Aa xs.length ca]) (bF [(0,J sa Aa xs.length ca)] ⟨rfl,up⟩ (sr (l7 G G (vs:= (O sa Aa xs.length ca)) G fun o v2 nb=>?_)))
 have gw_g1:w.heap.size≤o:=by rw [←nb.at_];exact aX _
 have h:=nb.bk
 have ai:w.heap.size≤o:=by rw [←nb.at_];exact (Ext.refl w).size
 have e3:=nb.ext
 clear nb
 have L:=(Ext.refl w).trans e3
 refine jG G (z:= .agg #[F0,S0]) (vs:= [F0,S0]) (fun _=>by kernel_rfl) G fun V _ nb=>?_
 have gw_g6:v2.heap.size≤V:=by rw [←nb.at_];exact aX _
 have M:=nb.bk
 have U:w.heap.size≤V:=by rw [←nb.at_];exact L.size
 have aj:o<V:=by rw [←nb.at_];exact h.lt
 have I:=nb.ext
 clear nb
 have D:=L.trans I
 refine mv 1 G (a1 (sr (pf o 1 G (aL G G (aP bX (h.ext I) G) (cl (vs:= [i9 Aa xs.length ca]) D (UO (hx.ext D) (by omega)) G (by kernel_rfl) fun _ _ Y q aa=>?_)))))
 obtain⟨e,rfl,f,H⟩:=Y
 have ae:o<e:=cS (h.ext I).lt f
 have ag:V<e:=cS M.lt f
 have f:w.heap.size≤e:=aE D.size f
 refine mv 1 G (a1 (a7 ?_))
 refine eI cQ 9 [8] [Is (a4 o 0),Is (.bool sa),Is (i9 (some ⟨e,0,none⟩) (xs.length+80) (xs.length+80)),Is (a4 o 1),Is (i9 Aa xs.length ca),Is (a9 ((xs.length:Nat):Int)),Is (i9 (some ⟨e,0,none⟩) xs.length (xs.length+80)),Is (.agg #[.bool sa,i9 (some ⟨e,0,none⟩) xs.length (xs.length+80)]),Is (i9 (some ⟨e,0,none⟩) (xs.length+80) (xs.length+80))] [[],[0],[],[],[3],[4],[2,5],[1,6],[]] [[],[0],[],[],[3],[3,4],[2,3,4,5],[0,1,2,3,4,5,6],[],[0,1,2,3,4,5,6,7],[0,1,2,3,4,5,6,7,8,9]] rfl
  (aJ G G (aF G G ?_) (aJ G G (aF G G ?_) (aJ G G (aF G G ?_) (aJ G G (aF G G ?_) (aJ G G (aF G G ?_) (aJ G G (aF G G ?_) (aJ G G (aF G G ?_) (aJ G G (aF G G ?_) (QL G G (US G ?_) dY))))))))) ?_
 ·exact fun _ _=>aG (pf o 0 G (aI G aK G))
 ·exact fun _ ab=>dk G G (aG (aL G G (aP dB (h.ext (I.t (q.t ab))) G) (aI G aK G)))
 ·exact fun _ _=>aG (mv 1 G (aI G aK G))
 ·exact fun _ _=>aG (pf o 1 G (aI G aK G))
 ·exact fun _ X=>dk G G (aG (aL G G (aP bX (h.ext (I.t (q.t X))) G) (aI G aK G)))
 ·exact fun _ _=>dk G G (aG (pu (v:= a9 ((xs.length:Nat):Int)) G (aI G aK G)))
 ·exact fun _ _=>dk G G (dk G G (aG (lT G G bS bM (lo:=0) (hi:=xs.length) G G (by omega) (by omega) (v:= i9 (some ⟨e,0,none⟩) xs.length (xs.length+80)) (sJ _ _ _) (by decide) (aI G aK G))))
 ·exact fun _ _=>dk G G (dk G G (aG (pu (v:= .agg #[.bool sa,i9 (some ⟨e,0,none⟩) xs.length (xs.length+80)]) G (aI G aK G))))
 ·exact fun _ _=>aG (⟨i9 (some ⟨e,0,none⟩) (xs.length+80) (xs.length+80),rfl,rfl,fun _=>by kernel_rfl,rfl⟩)
 ·intro _ p
  have W:=aa.trans p
  refine dk G G (dk G G (dk G G (dk G G (dk G G (dk G G (dk G G (dk G G (dk G G (aG ?_)))))))))
  have E:=(M.ext (q.t p))
  refine so aB E [.bool sa,i9 (some ⟨e,0,none⟩) xs.length (xs.length+80)] W U G G G G fun _ r F Z=>(mv 1 G (aS (eB (aC (aU (aT [.agg #[.bool sa,i9 (some ⟨e,0,none⟩) xs.length (xs.length+80)],i9 (some ⟨e,0,none⟩) (xs.length+80) (xs.length+80)] G ⟨⟨_,rfl,bA aB r [.bool sa,i9 (some ⟨e,0,none⟩) xs.length (xs.length+80)] G (bq G) rfl⟩,rfl,up⟩ ?_))))))
  exact⟨_,rfl,⟨e,rfl,f,((H.ext p).vN F)⟩,Z⟩
theorem I8 {d:Nat}(hx:Rd w A n c xs)(hy:Rd w B m d xs)(hn:n≤1099511627776):aQ aH 108 #[i9 A n c,i9 B m d] w (Gv w (Is (no))):=by
 have e:n=m:=hx.len.symm.trans hy.len
 have h:=F8 hx hn hy (by omega)
 rw [decide_eq_true rfl] at h
 exact h.mono HW
theorem B9 {cb:Nat}(hx:Rd w Aa xs.length ca xs)(hal:xs.length≤1048576)(hy:Rd w Ab xs.length cb xs):aQ aH 75 #[J sa Aa xs.length ca,J sa Ab xs.length cb] w (Gv w (Is (no))):=by
 refine bL Tryz.func75 G (n:=17) G (bq G) (args:= [J sa Aa xs.length ca,J sa Ab xs.length cb]) (bF [(0,J sa Aa xs.length ca),(1,J sa Ab xs.length cb)] ⟨rfl,rfl,up⟩ (sr (l7 G G (vs:= (O sa Aa xs.length ca)) G fun o I nb=>?_)))
 have gw_g1:w.heap.size≤o:=by rw [←nb.at_];exact aX _
 have f:=nb.bk
 have M:w.heap.size≤o:=by rw [←nb.at_];exact (Ext.refl w).size
 have L:=nb.ext
 clear nb
 have D:=(Ext.refl w).trans L
 refine l7 G G (vs:= (O sa Ab xs.length cb)) G fun q _ nb=>?_
 have gw_g6:I.heap.size≤q:=by rw [←nb.at_];exact aX _
 have h:=nb.bk
 have H:w.heap.size≤q:=by rw [←nb.at_];exact D.size
 have U:o<q:=by rw [←nb.at_];exact f.lt
 have r:=nb.ext
 clear nb
 have e:=D.trans r
 refine mv 1 G (a1 (a7 ?_))
 cases sa
 ·refine a6 (pf o 0 G (aL G G (aP dB (f.ext r) G) (pf q 0 G (aL G G (aP dB h G) (pu (v:= no) G (mv 1 G (pf o 1 G (aL G G (aP bX (f.ext r) G) (pf q 1 G (aL G G (aP bX h G) (cl (vs:= [i9 Aa xs.length ca,i9 Ab xs.length cb]) e (I8 (hx.ext e) (hy.ext e) (by omega)) G (by kernel_rfl) fun _ _ F _ p=>?_)))))))))))
  obtain rfl:=F
  refine pu (v:= no) G (mv 1 G (a1 (aU (aT [no] G ⟨rfl,up⟩ ?_))))
  exact⟨_,rfl,rfl,p⟩
 ·refine a6 (pf o 0 G (aL G G (aP dB (f.ext r) G) (pf q 0 G (aL G G (aP dB h G) (pu (v:= no) G (mv 1 G (pf o 1 G (aL G G (aP bX (f.ext r) G) (pf q 1 G (aL G G (aP bX h G) (cl (vs:= [i9 Aa xs.length ca,i9 Ab xs.length cb]) e (I8 (hx.ext e) (hy.ext e) (by omega)) G (by kernel_rfl) fun _ _ E _ p=>?_)))))))))))
  obtain rfl:=E
  refine pu (v:= no) G (mv 1 G (a1 (aU (aT [no] G ⟨rfl,up⟩ ?_))))
  exact⟨_,rfl,rfl,p⟩
theorem M7 (h:i<xs.length):(dI i xs++ms).set i (((((dI i xs++ms).getD i 0*3)%18446744073709551616+i)%18446744073709551616+1)%18446744073709551616)=dI (i+1) xs++ms:=by
 rw [Nat.mul_comm];exact M8 h
theorem tC {s:Bool}(hb0:Bk w g 65 ((xs++eM xs.length).map bC))(hl:xs.length≤1048576):aQ aH 17 #[.agg #[.bool s,i9 (some ⟨g,0,none⟩) xs.length (xs.length+80)]] w (X2 g xs (eM xs.length) w):=by
 refine bL Tryz.func17 G (n:=24) G (bq G) (args:= [.agg #[.bool s,i9 (some ⟨g,0,none⟩) xs.length (xs.length+80)]]) (bF [(0,.agg #[.bool s,i9 (some ⟨g,0,none⟩) xs.length (xs.length+80)])] ⟨rfl,up⟩ (sr (l7 G G (vs:= [.bool s,i9 (some ⟨g,0,none⟩) xs.length (xs.length+80)]) G fun o v2 nb=>?_)))
 have q3:g<o:=by rw [←nb.at_];exact (hb0).lt
 have gw_g1:w.heap.size≤o:=by rw [←nb.at_];exact aX _
 have ar:=nb.bk
 have bj:w.heap.size≤o:=by rw [←nb.at_];exact (UpdO.refl (some ⟨g,0,none⟩) w).size
 have e4:=nb.ext
 clear nb
 have e:UpdO (some ⟨g,0,none⟩) w v2:=(UpdO.refl (some ⟨g,0,none⟩) w).then_ext e4
 refine a1 (sr (mv 1 G (a1 (bI ?_))))
 refine cU (T:=a0×Nat)
  (fun⟨wr,i⟩=> [(1,a4 o 0),(2,a9 i)])
  (fun⟨wr,i⟩=>wr)
  (fun⟨wr,i⟩=>(UpdO (some ⟨g,0,none⟩) w wr)∧(i≤xs.length)∧(Bk wr g 65 ((dI i xs++eM xs.length).map bC))∧(Bk wr o 24 [.bool s,i9 (some ⟨g,0,none⟩) xs.length (xs.length+80)]))
  (fun⟨wr,i⟩=>xs.length-i)
  (⟨v2,0⟩:a0×Nat) ⟨e,(bJ _),(by rw [M9];exact (hb0.ext e4)),ar⟩ G ⟨rfl,rfl,up⟩ ?_
 rintro⟨wr,i⟩ ⟨e,hi,hb,p⟩
 refine cR [(1,a4 o 0),(2,a9 i)] wr G ⟨rfl,rfl,up⟩ (a7 (a7 ?_))
 by_cases Y:i<xs.length
 ·refine a6 (mv 1 G (pf o 1 G (aL G G (aP bX p G) (pu (v:= a9 ((xs.length:Nat):Int)) G (aA G G G true (dG (a:=i) (b:=xs.length) G G) (a1 (aY G (aW (aC (a7 (bI ?_)))))))))))
  refine eI cQ 14 [] [Is (a4 o 1),Is (i9 (some ⟨g,0,none⟩) xs.length (xs.length+80)),Is (a9 i),Is (a4 o 1),Is (i9 (some ⟨g,0,none⟩) xs.length (xs.length+80)),Is (a9 i),Is (.pointer (some (⟨g,i,none⟩))),Is (i5 (((dI i xs++eM xs.length).getD i 0:Nat):Int)),Is (i5 (((((dI i xs++eM xs.length).getD i 0)*3)%18446744073709551616:Nat):Int)),Is (a9 i),Is (i5 i),Is (i5 (((((((dI i xs++eM xs.length).getD i 0)*3)%18446744073709551616)+i)%18446744073709551616:Nat):Int)),Is (i5 (((((((((dI i xs++eM xs.length).getD i 0)*3)%18446744073709551616)+i)%18446744073709551616)+1)%18446744073709551616:Nat):Int)),Is (.pointer (some (⟨g,i,none⟩)))] [[],[0],[],[],[3],[],[4,5],[6],[7],[],[9],[8,10],[11],[1,2]] [[],[0],[],[],[3],[],[3,4,5],[3,4,5,6],[3,4,5,6,7],[],[9],[3,4,5,6,7,8,9,10],[3,4,5,6,7,8,9,10,11],[0,1,2,3,4,5,6,7,8,9,10,11,12],[0,1,2,3,4,5,6,7,8,9,10,11,12,13]] rfl
   (aJ G G (aF G G ?_) (aJ G G (aF G G ?_) (aJ G G (aF G G ?_) (aJ G G (aF G G ?_) (aJ G G (aF G G ?_) (aJ G G (aF G G ?_) (aJ G G (aF G G ?_) (aJ G G (aF G G ?_) (aJ G G (aF G G ?_) (aJ G G (aF G G ?_) (aJ G G (aF G G ?_) (aJ G G (aF G G ?_) (aJ G G (aF G G ?_) (aJ G G (aF G G ?_) dY)))))))))))))) ?_
  ·intro v7 e8
   have f:UpdO (some ⟨g,0,none⟩) w v7:=e.then_ext e8
   refine aG (pf o 1 G ?_)
   exact aI G aK rfl
  ·intro v9 I
   have f:UpdO (some ⟨g,0,none⟩) w v9:=e.then_ext I
   refine dk G G (aG (aL G G (aP bX (p.ext I) G) ?_))
   exact aI G aK rfl
  ·intro bf ae
   have f:UpdO (some ⟨g,0,none⟩) w bf:=e.then_ext ae
   refine aG (mv 1 G ?_)
   exact aI G aK rfl
  ·intro aa au
   have f:UpdO (some ⟨g,0,none⟩) w aa:=e.then_ext au
   refine aG (pf o 1 G ?_)
   exact aI G aK rfl
  ·intro az L
   have f:UpdO (some ⟨g,0,none⟩) w az:=e.then_ext L
   refine dk G G (aG (aL G G (aP bX (p.ext L) G) ?_))
   exact aI G aK rfl
  ·intro ao M
   have f:UpdO (some ⟨g,0,none⟩) w ao:=e.then_ext M
   refine aG (mv 1 G ?_)
   exact aI G aK rfl
  ·intro ai V
   have f:UpdO (some ⟨g,0,none⟩) w ai:=e.then_ext V
   refine dk G G (dk G G (aG (bK G G G bS bM i G ⟨g,i,none⟩ (dN _ _) ?_)))
   exact aI G aK rfl
  ·intro av H
   have f:UpdO (some ⟨g,0,none⟩) w av:=e.then_ext H
   refine dk G G (aG (aL G G (iA d7 (hb.ext H) (by rw [(show (dI i xs++eM xs.length).length=xs.length+80 by rw [eN,jT hi,qW])];omega)) ?_))
   exact aI G aK rfl
  ·intro X aq
   have f:UpdO (some ⟨g,0,none⟩) w X:=e.then_ext aq
   refine dk G G (aG (aR G G G (((((dI i xs++eM xs.length).getD i 0)*3)%18446744073709551616:Nat):Int) (WO (a:=(dI i xs++eM xs.length).getD i 0) (b:=3) G G) ?_))
   exact aI G aK rfl
  ·intro ab ak
   have f:UpdO (some ⟨g,0,none⟩) w ab:=e.then_ext ak
   refine aG (mv 1 G ?_)
   exact aI G aK rfl
  ·intro aw bd
   have f:UpdO (some ⟨g,0,none⟩) w aw:=e.then_ext bd
   refine dk G G (aG (dF G G (v:= i5 (IntKind.u64.wrap ((i:Nat):Int))) (v':= i5 i) (jC (by first | omega | exact hle64)) ?_))
   exact aI G aK rfl
  ·intro W ba
   have f:UpdO (some ⟨g,0,none⟩) w W:=e.then_ext ba
   refine dk G G (dk G G (aG (aR G G G (((((((dI i xs++eM xs.length).getD i 0)*3)%18446744073709551616)+i)%18446744073709551616:Nat):Int) (JT (a:=(((dI i xs++eM xs.length).getD i 0)*3)%18446744073709551616) (b:=i) G G) ?_)))
   exact aI G aK rfl
  ·intro aj ag
   have f:UpdO (some ⟨g,0,none⟩) w aj:=e.then_ext ag
   refine dk G G (aG (aR G G G (((((((((dI i xs++eM xs.length).getD i 0)*3)%18446744073709551616)+i)%18446744073709551616)+1)%18446744073709551616:Nat):Int) (JT (a:=(((((dI i xs++eM xs.length).getD i 0)*3)%18446744073709551616)+i)%18446744073709551616) (b:=1) G G) ?_))
   exact aI G aK rfl
  ·intro U ah
   have f:UpdO (some ⟨g,0,none⟩) w U:=e.then_ext ah
   refine dk G G (dk G G (aG (bK G G G bS bM i G ⟨g,i,none⟩ (dN _ _) ?_)))
   exact aI G aK rfl
  ·intro Z F
   have f:UpdO (some ⟨g,0,none⟩) w Z:=e.then_ext F
   refine dk G G (dk G G (dk G G (dk G G (dk G G (dk G G (dk G G (dk G G (dk G G (dk G G (dk G G (dk G G (dk G G (dk G G ?_)))))))))))))
   refine aG ?_
   have D:=(hb.ext F)
   refine d6 G G G bM G D (gL (by rw [(show (dI i xs++eM xs.length).length=xs.length+80 by rw [eN,jT hi,qW])];omega)) G (((dI i xs++eM xs.length).set i ((((((((dI i xs++eM xs.length).getD i 0)*3)%18446744073709551616)+i)%18446744073709551616)+1)%18446744073709551616)).map bC) (dP _ _ _) fun r E q _=>?_
   have am:UpdO (some ⟨g,0,none⟩) w r:=f.trans q.updO
   refine aS (eB (bG (aC (a6 (mv 1 G (aR G G G ((i+1:Nat):Int) (bN (a:=i) (b:=1) G G) (mv 1 G (aS (bW (⟨r,i+1⟩:a0×Nat) ⟨am,(by omega),(by have h:=E;rwa [M7 Y] at h),((p.ext F).vN q)⟩ (show xs.length-(i+1)<xs.length-i by omega) G ⟨rfl,rfl,up⟩)))))))))
 ·refine a6 (mv 1 G (pf o 1 G (aL G G (aP bX p G) (pu (v:= a9 ((xs.length:Nat):Int)) G (aA G G G false (cW (a:=i) (b:=xs.length) G G) (a1 (aN G (cN (cI (cL (cM (nZ [] G up ?_))))))))))))
  obtain rfl:i=xs.length:=by omega
  exact⟨rfl,⟨e.by_⟩,hb⟩
theorem FQ (x:Nat): [x].length≤1048576:=by rw [List.length_singleton];decide
structure RX (w:a0)(b gx n:Nat)(σ:Nat→Bool)(γ:Nat→Nat)(ω:Nat→List Nat)(us:List aD):Prop where
 own:Own w b 24 2 (some ⟨gx,0,none⟩) (n+2) (n+2) us
 cz:Cz us n σ γ ω
 tl:∃g1 g2,us[n*2]?=some (t9)∧us[n*2+1]?=some (i9 (some ⟨g1,0,none⟩) 1 1)∧us[(n+1)*2]?=some (t9)∧us[(n+1)*2+1]?=some (i9 (some ⟨g2,0,none⟩) 1 1)∧Bk w g1 65 [i5 77]∧Bk w g2 65 [i5 78]
theorem RX.ext {σ:Nat→Bool}{γ:Nat→Nat}{ω:Nat→List Nat}(h:RX w b gx n σ γ ω us)(e:Ext w w'):RX w' b gx n σ γ ω us:=by
 obtain⟨h1,h2,f,q,a,b,c,d,o,p⟩:=h
 exact⟨h1.ext e,h2,f,q,a,b,c,d,o.ext e,p.ext e⟩
theorem RX.updT {σ:Nat→Bool}{γ:Nat→Nat}{ω:Nat→List Nat}(h:RX w b gx n σ γ ω us)(hb:Bk w g T vs)(hT:65≠T∧24≠T)(u:Upd g w w'):RX w' b gx n σ γ ω us:=by
 obtain⟨h1,h2,e,p,a,b,c,d,f,o⟩:=h
 exact⟨h1.updT hb hT.2 u,h2,e,p,a,b,c,d,f.updTT hb hT.1 u,o.updTT hb hT.1 u⟩
def X9 (b n:Nat)(σ:Nat→Bool)(ω:Nat→List Nat)(v:aD)(w:a0):Prop:=∃gx B γ us ws,v= .tuple #[i9 (some ⟨gx,0,none⟩) (n+2) (n+2),i9 B n n]∧RX w b gx n σ γ ω us∧Own w b 22 1 B n n ws∧Cw ws n γ ω∧Fam w b n γ ω
theorem IB {σ:Nat→Bool}{ω:Nat→List Nat}(hl:Zw w L n cap σ ω)(hn:n≤1048576)(hK:∀i,i<n→(ω i).length≤1048576):aQ aH 12 #[i9 L n cap] w (Gv w (X9 w.heap.size n σ ω)):=by
 refine bL Tryz.func12 G (n:=49) G (bq G) (args:= [i9 L n cap]) (bF [(0,i9 L n cap)] ⟨rfl,up⟩ (sr (mv 2 G (a1 (sr (mv 1 G (pu (v:= a9 n) G (aR G G G ((n+2:Nat):Int) (bN (a:=n) (b:=2) G G) (D2 (k:=n+2) none 0 w.heap.size G G G (by omega) (by decide) fun g1 _ au bf e5=>?_)))))))))
 obtain⟨_,am⟩:=bf.own
 have cf:w.heap.size≤g1:=by rw [←au];exact (Ext.refl w).size
 replace am:=am.mono cf
 clear au bf
 have o:=(Ext.refl w).trans e5
 refine mv 1 G (a1 (sr (mv 1 G (pu (v:= a9 n) G (l6 G (k:=n) G G G Tryz.underlying36 sZ G fun g9 bv ah bg az=>?_)))))
 have bt:w.heap.size≤g9:=by rw [←ah];exact o.size
 clear ah
 have ag:=Own.mk_ (s:=1) bt bg (aX n) (by rw [eA];omega) (by rw [List.length_replicate,dK]) rfl
 have U:=o.trans az
 obtain⟨_,bm⟩:∃us,(List.replicate n (oD none 0 0)).take (n*1)=us:=⟨_,rfl⟩
 rw [bm] at ag
 clear bm
 refine mv 1 G (a1 (a7 (sr (mv 1 G (a1 (bI ?_))))))
 refine cU (T:=a0×Nat×(Nat→Nat)×List aD×List aD)
  (fun⟨wr,i,γ,us,ws⟩=> [(0,i9 L n cap),(4,i9 (some ⟨g1,0,none⟩) (n+2) (n+2)),(5,i9 (some ⟨g9,0,none⟩) n n),(6,a9 i)])
  (fun⟨wr,i,γ,us,ws⟩=>wr)
  (fun⟨wr,i,γ,us,ws⟩=>(Ext w wr)∧(i≤n)∧(Own wr w.heap.size 24 2 (some ⟨g1,0,none⟩) (n+2) (n+2) us)∧(Own wr w.heap.size 22 1 (some ⟨g9,0,none⟩) n n ws)∧(Cz us i σ γ ω)∧(Cw ws i γ ω)∧(Fam wr w.heap.size i γ ω))
  (fun⟨wr,i,γ,us,ws⟩=>n-i)
  (⟨bv,0,(fun _=>0),_,_⟩:a0×Nat×(Nat→Nat)×List aD×List aD) ⟨U,(bJ _),(am.ext az),ag,(fun _ h=>absurd h (Nat.not_lt_zero _)),(fun _ h=>absurd h (Nat.not_lt_zero _)),Fam.zero⟩ G ⟨rfl,rfl,rfl,rfl,up⟩ ?_
 rintro⟨wr,i,γ,us,ws⟩ ⟨o,hi,hX,hW,hC,hD,hF⟩
 refine cR [(0,i9 L n cap),(4,i9 (some ⟨g1,0,none⟩) (n+2) (n+2)),(5,i9 (some ⟨g9,0,none⟩) n n),(6,a9 i)] wr G ⟨rfl,rfl,rfl,rfl,up⟩ (a7 (a7 ?_))
 by_cases ci:i<n
 ·refine a6 (mv 2 G (pu (v:= a9 n) G (aA G G G true (dG (a:=i) (b:=n) G G) (a1 (aY G (aW (aC (a7 (bI (a6 (mv 6 G ?_)))))))))))
  obtain⟨cj,bj,ch,ct,bd,_,aa⟩:=CP hl (i:=i) (by omega)
  refine bK G G G fQ aB.size i G cj bj (aL G G (bd _ o _ _ aB) ?_)
  have ck:=(aa).wf
  have cm:=fun j hj=>hF.lt (j:=j) hj
  have bi:=o.size
  refine cl (vs:= [.agg #[.bool (σ i),i9 ch ((ω i).length) ct]]) o (wG (aa.ext o) (hK _ ci)) G (by kernel_rfl) fun _ _ ce aq U=>?_
  obtain⟨V,rfl,ae,bh⟩:=ce
  refine mv 1 G (pu (v:= .agg #[.bool (σ i),i9 (some ⟨V,0,none⟩) ((ω i).length) ((ω i).length+80)]) G (pu (v:= i9 (some ⟨V,0,none⟩) ((ω i).length+80) ((ω i).length+80)) G (bK G G G fQ aB.size i G ((⟨g1,0,none⟩:a8).add (i*2)) G ?_)))
  have r:=(hX.ext aq)
  refine yJ G G G r G G G fun _ aw F=>?_
  have W:=F.ext U (fun p hp=>by have:=(r.block p hp).1;omega)
  refine bK G G G kE kN i G ((⟨g9,0,none⟩:a8).add (i*1)) G ?_
  have D:=((hW.ext aq).updOT r (by decide) F)
  refine LB G G G D (by omega) G G G fun co av H=>?_
  have ai:=H.ext W (fun p hp=>by have:=(D.block p hp).1;omega)
  refine aS (bG (aC (a6 (mv 1 G (aR G G G ((i+1:Nat):Int) (bN (a:=i) (b:=1) G G) (mv 1 G (aS (bW (⟨co,i+1,_,_,_⟩:a0×Nat×(Nat→Nat)×List aD×List aD) ⟨ai,(by omega),(aw.updOT D (by decide) H),av,(hC.snoc (g:=V) (by have:=lU hX;omega)),(hD.snoc (g:=V) (by have:=hW.rv.len;omega)),(Fam.snoc (((hF.ext aq).updOT r (by decide) F).updOT D (by decide) H) ck ((bh.updOT r (by decide) F).updOT D (by decide) H) (aE bi ae) (fun j hj=>cS (cm j hj) ae))⟩ (show n-(i+1)<n-i by omega) G ⟨rfl,rfl,rfl,rfl,up⟩))))))))
 ·obtain rfl:n=i:=by omega
  have dg:=lU hX
  refine a6 (mv 2 G (pu (v:= a9 n) G (aA G G G false (cW (a:=n) (b:=n) G G) (a1 (aN G (cN (cI (cL (cM (aC (sr (mv 2 G (pu (v:= a9 n) G ?_)))))))))))))
  refine fW G G (k:=1) (e:=65) [i5 77] (fun _=>by kernel_rfl) fun aj _ nb=>?_
  have Y:=nb.bk
  have cu:w.heap.size≤aj:=by rw [←nb.at_];exact o.size
  have X:=nb.ext
  clear nb
  have U:=o.trans X
  have cx:=qP (x:=77) Y
  refine pu (v:= .agg #[F0,i9 (some ⟨aj,0,none⟩) 1 1]) G (bK G G G fQ aB.size n G ((⟨g1,0,none⟩:a8).add (n*2)) G ?_)
  have E:=(hX.ext X)
  refine yJ G G G E G G G fun _ ba I=>?_
  have W:=I.ext U (fun p hp=>by have:=(E.block p hp).1;omega)
  refine a1 (sr (mv 2 G (pu (v:= a9 n) G (aR G G G ((n+1:Nat):Int) (bN (a:=n) (b:=1) G G) (fW G G (k:=1) (e:=65) [i5 78] (fun _=>by kernel_rfl) fun ao _ nb=>?_)))))
  have Z:=nb.bk
  have cv:w.heap.size≤ao:=by rw [←nb.at_];exact W.size
  have M:=nb.ext
  clear nb
  have ai:=W.trans M
  have dd:=qP (x:=78) Z
  refine pu (v:= .agg #[F0,i9 (some ⟨ao,0,none⟩) 1 1]) G (bK G G G fQ aB.size (n+1) G ((⟨g1,0,none⟩:a8).add ((n+1)*2)) G ?_)
  have f:=(ba.ext M)
  refine yJ G G G f G G G fun _ bo q=>?_
  have bz:=q.ext ai (fun p hp=>by have:=(f.block p hp).1;omega)
  refine a1 (sr (mv 4 G (a1 (aU (aT [i9 (some ⟨g1,0,none⟩) (n+2) (n+2),i9 (some ⟨g9,0,none⟩) n n] G ⟨rfl,rfl,up⟩ (⟨_,rfl,⟨_,_,_,_,_,rfl,⟨bo,(hC.far (aX _)).far (Nat.le_succ _),aj,ao,?_,?_,?_,?_,(((Y.updOT E (by decide) I).ext M).updOT f (by decide) q),(Z.updOT f (by decide) q)⟩,((((hW.ext X).updOT E (by decide) I).ext M).updOT f (by decide) q),hD,((((hF.ext X).updOT E (by decide) I).ext M).updOT f (by decide) q)⟩,bz⟩))))))
  ·rw [List.getElem?_set_ne (by omega),List.getElem?_set_ne (by omega),List.getElem?_set_ne (by omega),List.getElem?_set_self (by omega)]
  ·rw [List.getElem?_set_ne (by omega),List.getElem?_set_ne (by omega),List.getElem?_set_self (by rw [List.length_set];omega)]
  ·rw [List.getElem?_set_ne (by omega),List.getElem?_set_self (by rw [List.length_set,List.length_set];omega)]
  ·rw [List.getElem?_set_self (by rw [List.length_set,List.length_set,List.length_set];omega)]
theorem IM {σ:Nat→Bool}{ω:Nat→List Nat}(hl:Zw w L n cap σ ω)(hn:n≤1048576)(hK:∀i,i<n→(ω i).length≤1048576){γ:Nat→Nat}(hR:RX w b gx n σ γ ω us)(hW:Own w b 22 1 B n n ws)(hD:Cw ws n γ ω)(hF:Fam w b n γ ω):aQ aH 16 #[i9 (some ⟨gx,0,none⟩) (n+2) (n+2),i9 B n n,i9 L n cap] w (Gv w (Is (no))):=by
 obtain⟨hX,hC,g1,g2,t1a,t1b,t2a,t2b,bh,ch⟩:=hR
 refine bL Tryz.func16 G (n:=69) G (bq G) (args:= [i9 (some ⟨gx,0,none⟩) (n+2) (n+2),i9 B n n,i9 L n cap]) (bF [(0,i9 (some ⟨gx,0,none⟩) (n+2) (n+2)),(1,i9 B n n),(2,i9 L n cap)] ⟨rfl,rfl,rfl,up⟩ (sr (mv 1 G (a1 (a7 (sr (mv 1 G (pu (v:= a9 (((n+2):Nat):Int)) G (mv 1 G (pu (v:= a9 n) G (aR G G G ((n+2:Nat):Int) (bN (a:=n) (b:=2) G G) (aA G G G false (k8 (a:=n+2) (b:=n+2) G G) (mv 1 G ?_)))))))))))))
 refine mv 1 G (pu (v:= a9 n) G (mv 1 G (pu (v:= a9 n) G (aA G G G false (k8 (a:=n) (b:=n) G G) (pu (v:= t9) G (a1 (aN G (aW (aC (a7 (sr (mv 1 G (aS ?_)))))))))))))
 refine aC (bI ?_)
 refine cU (T:=a0×Nat)
  (fun⟨wr,i⟩=> [(0,i9 (some ⟨gx,0,none⟩) (n+2) (n+2)),(1,i9 B n n),(2,i9 L n cap),(7,a9 i)])
  (fun⟨wr,i⟩=>wr)
  (fun⟨wr,i⟩=>(Ext w wr)∧(i≤n))
  (fun⟨wr,i⟩=>n-i)
  (⟨w,0⟩:a0×Nat) ⟨(Ext.refl w),(bJ _)⟩ G ⟨rfl,rfl,rfl,rfl,up⟩ ?_
 rintro⟨wr,i⟩ ⟨o,hi⟩
 refine cR [(0,i9 (some ⟨gx,0,none⟩) (n+2) (n+2)),(1,i9 B n n),(2,i9 L n cap),(7,a9 i)] wr G ⟨rfl,rfl,rfl,rfl,up⟩ (a7 (a7 ?_))
 by_cases h:i<n
 ·refine a6 (mv 2 G (pu (v:= a9 n) G (aA G G G true (dG (a:=i) (b:=n) G G) (a1 (aY G (aW (aC (a7 (bI (a7 ?_))))))))))
  obtain⟨p1,bg,cg⟩:=qN hX (i:=i) (by omega) (hC i h).1 (hC i h).2
  have bz:=jX (hF.1 i h).2.2 G (hF.1 i h).2.1 (aE (hK i h) (by decide))
  obtain⟨Y,ar,B2,c2,ci,aj,rd2⟩:=CP hl (i:=i) (by omega)
  obtain⟨p3,bv,ce⟩:=Q8 hW (i:=i) (by omega) (hD i h)
  have cf:=vB (hF.1 i h).2.2 G (hF.1 i h).2.1 (aE (hK i h) (by decide))
  refine eI cQ 23 [] [Is (i9 (some ⟨gx,0,none⟩) (n+2) (n+2)),Is (a9 i),Is (.pointer (some p1)),Is (.agg #[.bool (σ i),i9 (some ⟨γ i,0,none⟩) ((ω i).length) ((ω i).length+80)]),Is (i9 L n cap),Is (a9 i),Is (.pointer (some Y)),Is (.agg #[.bool (σ i),i9 B2 ((ω i).length) c2]),Is (no),Is (t9),Is (t9),Is (i9 B n n),Is (a9 i),Is (.pointer (some p3)),Is (i9 (some ⟨γ i,0,none⟩) ((ω i).length+80) ((ω i).length+80)),Is (i9 L n cap),Is (a9 i),Is (.pointer (some Y)),Is (.pointer (some (Y.add 1))),Is (i9 B2 ((ω i).length) c2),Is (no),Is (t9),Is (t9)] [[],[],[0,1],[2],[],[],[4,5],[6],[3,7],[8],[9],[10],[10],[10,11,12],[10,13],[10],[10],[10,15,16],[10,17],[10,18],[10,14,19],[10,20],[10,21]] [[],[],[0,1],[0,1,2],[],[],[4,5],[4,5,6],[0,1,2,3,4,5,6,7],[0,1,2,3,4,5,6,7,8],[0,1,2,3,4,5,6,7,8,9],[0,1,2,3,4,5,6,7,8,9,10],[0,1,2,3,4,5,6,7,8,9,10],[0,1,2,3,4,5,6,7,8,9,10,11,12],[0,1,2,3,4,5,6,7,8,9,10,11,12,13],[0,1,2,3,4,5,6,7,8,9,10],[0,1,2,3,4,5,6,7,8,9,10],[0,1,2,3,4,5,6,7,8,9,10,15,16],[0,1,2,3,4,5,6,7,8,9,10,15,16,17],[0,1,2,3,4,5,6,7,8,9,10,15,16,17,18],[0,1,2,3,4,5,6,7,8,9,10,11,12,13,14,15,16,17,18,19],[0,1,2,3,4,5,6,7,8,9,10,11,12,13,14,15,16,17,18,19,20],[0,1,2,3,4,5,6,7,8,9,10,11,12,13,14,15,16,17,18,19,20,21]] rfl
   (aJ G G (aF G G ?_) (aJ G G (aF G G ?_) (aJ G G (aF G G ?_) (aJ G G (aF G G ?_) (aJ G G (aF G G ?_) (aJ G G (aF G G ?_) (aJ G G (aF G G ?_) (aJ G G (aF G G ?_) (aJ G G (aF G G ?_) (aJ G G (aF G G ?_) (aJ G G (aF G G ?_) (aJ G G (aF G G ?_) (aJ G G (aF G G ?_) (aJ G G (aF G G ?_) (aJ G G (aF G G ?_) (aJ G G (aF G G ?_) (aJ G G (aF G G ?_) (aJ G G (aF G G ?_) (aJ G G (aF G G ?_) (aJ G G (aF G G ?_) (aJ G G (aF G G ?_) (aJ G G (aF G G ?_) (aJ G G (aF G G ?_) dY))))))))))))))))))))))) ?_
  ·exact fun _ _=>aG (mv 1 G (aI G aK G))
  ·exact fun _ _=>aG (mv 1 G (aI G aK G))
  ·exact fun _ _=>dk G G (dk G G (aG (bK G G G fQ aB.size i G p1 bg (aI G aK G))))
  ·intro _ bm
   have f:=o.trans bm
   refine dk G G (aG (aL G G (cg _ f _ _ aB) ?_))
   exact aI G aK rfl
  ·exact fun _ _=>aG (mv 1 G (aI G aK G))
  ·exact fun _ _=>aG (mv 1 G (aI G aK G))
  ·exact fun _ _=>dk G G (dk G G (aG (bK G G G fQ aB.size i G Y ar (aI G aK G))))
  ·intro _ bf
   have f:=o.trans bf
   refine dk G G (aG (aL G G (ci _ f _ _ aB) ?_))
   exact aI G aK rfl
  ·intro _ bw
   have f:=o.trans bw
   refine dk G G (dk G G (aG (cl (vs:= [.agg #[.bool (σ i),i9 (some ⟨γ i,0,none⟩) ((ω i).length) ((ω i).length+80)],.agg #[.bool (σ i),i9 B2 ((ω i).length) c2]]) f (B9 (xs:=(ω i)) (bz.ext f) (hK i h) (rd2.ext f)) G (by kernel_rfl) fun _ _ bu bt q=>?_)))
   obtain rfl:=bu
   exact aI G bt rfl
  ·exact fun _ _=>dk G G (aG (pu (v:= t9) G (aI G aK G)))
  ·exact fun _ _=>dk G G (aG (mv 1 G (aI G aK G)))
  ·exact fun _ _=>dk G G (aG (mv 1 G (aI G aK G)))
  ·exact fun _ _=>dk G G (aG (mv 1 G (aI G aK G)))
  ·exact fun _ _=>dk G G (dk G G (dk G G (aG (bK G G G kE kN i G p3 bv (aI G aK G)))))
  ·intro _ aw
   have f:=o.trans aw
   refine dk G G (dk G G (aG (aL G G (cT oB (f.cell ce)) ?_)))
   exact aI G aK rfl
  ·exact fun _ _=>dk G G (aG (mv 1 G (aI G aK G)))
  ·exact fun _ _=>dk G G (aG (mv 1 G (aI G aK G)))
  ·exact fun _ _=>dk G G (dk G G (dk G G (aG (bK G G G fQ aB.size i G Y ar (aI G aK G)))))
  ·exact fun _ _=>dk G G (dk G G (aG (pu (v:= .pointer (some (Y.add 1))) G (aI G aK G))))
  ·intro _ ao
   have f:=o.trans ao
   refine dk G G (dk G G (aG (aL G G (cT (fun _=>by kernel_rfl) (aj _ f)) ?_)))
   exact aI G aK rfl
  ·intro _ ab
   have f:=o.trans ab
   refine dk G G (dk G G (dk G G (aG (cl (vs:= [i9 (some ⟨γ i,0,none⟩) ((ω i).length+80) ((ω i).length+80),i9 B2 ((ω i).length) c2]) f (wN (cf.ext f) (rd2.ext f) (aE (hK i h) (by decide))) G (by kernel_rfl) fun _ _ ai Z q=>?_))))
   obtain rfl:=ai
   exact aI G Z rfl
  ·exact fun _ _=>dk G G (dk G G (aG (pu (v:= t9) G (aI G aK G))))
  ·exact fun _ _=>dk G G (dk G G (aG (pu (v:= t9) G (aI G aK G))))
  ·intro ae av
   have f:=o.trans av
   refine dk G G (dk G G (dk G G (dk G G (dk G G (dk G G (dk G G (dk G G (dk G G (dk G G (dk G G (dk G G (dk G G (dk G G ?_)))))))))))))
   refine dk G G (dk G G (dk G G (dk G G (dk G G (dk G G (dk G G (dk G G (dk G G (aG (aS (eB (aC (aN G ?_)))))))))))))
   refine aW (bG (aC (a6 (mv 1 G (aR G G G ((i+1:Nat):Int) (bN (a:=i) (b:=1) G G) (mv 1 G (aS (bW (⟨ae,i+1⟩:a0×Nat) ⟨f,(by omega)⟩ (show n-(i+1)<n-i by omega) G ⟨rfl,rfl,rfl,rfl,up⟩))))))))
 ·refine a6 (mv 2 G (pu (v:= a9 n) G (aA G G G false (cW (a:=i) (b:=n) G G) (a1 (aN G (cN (cI (cL (cM (aC (sr (mv 2 G (pu (v:= a9 n) G ?_)))))))))))))
  obtain⟨au,D,W⟩:=qN hX (i:=n) (by omega) t1a t1b
  have V:=qP (x:=77) bh
  refine bK G G G fQ aB.size n G au D (aL G G (W _ o _ _ aB) (fW G G (k:=1) (e:=65) [i5 77] (fun _=>by kernel_rfl) fun r _ nb=>?_))
  have M:=nb.bk
  have bj:w.heap.size≤r:=by rw [←nb.at_];exact o.size
  have ag:=nb.ext
  clear nb
  have f:=o.trans ag
  have F:=qP (x:=77) M
  refine pu (v:= .agg #[F0,i9 (some ⟨r,0,none⟩) 1 1]) G (cl (vs:= [.agg #[F0,i9 (some ⟨g1,0,none⟩) 1 1],.agg #[F0,i9 (some ⟨r,0,none⟩) 1 1]]) f (B9 (xs:= [77]) (V.ext f) (FQ _) F) G (by kernel_rfl) fun _ _ aq _ q=>?_)
  obtain rfl:=aq
  refine mv 3 G (pu (v:= a9 n) G (aR G G G ((n+1:Nat):Int) (bN (a:=n) (b:=1) G G) ?_))
  obtain⟨am,I,X⟩:=qN hX (i:=n+1) (by omega) t2a t2b
  have H:=qP (x:=78) ch
  refine bK G G G fQ aB.size (n+1) G am I (aL G G (X _ q _ _ aB) (fW G G (k:=1) (e:=65) [i5 78] (fun _=>by kernel_rfl) fun p _ nb=>?_))
  have E:=nb.bk
  have bd:w.heap.size≤p:=by rw [←nb.at_];exact q.size
  have ah:=nb.ext
  clear nb
  have aa:=q.trans ah
  have U:=qP (x:=78) E
  refine pu (v:= .agg #[F0,i9 (some ⟨p,0,none⟩) 1 1]) G (cl (vs:= [.agg #[F0,i9 (some ⟨g2,0,none⟩) 1 1],.agg #[F0,i9 (some ⟨p,0,none⟩) 1 1]]) aa (B9 (xs:= [78]) (H.ext aa) (FQ _) U) G (by kernel_rfl) fun _ _ ak _ bi=>?_)
  obtain rfl:=ak
  refine pu (v:= no) G (mv 1 G (a1 (aU (aT [no] G ⟨rfl,up⟩ ?_))))
  exact⟨_,rfl,rfl,bi⟩
end Go.Proofs.YtkepckmdjncehaaGreatDoor
