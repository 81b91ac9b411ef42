/- Parts Base, Mem, Sx, Sxd, Sxe, Bits, Div64, Div64b, Radix, Nat, NatB, Mulnat, MulnatB, MulnatC, MulnatD, Divnat, DivnatB, joined. -/
import Derived.WalkKit
import Derived.WalkSpells
import Derived.Deep.Draws
import Derived.Lib.Hide
import Derived.Laws.CopyOwn
import Derived.Deep.QuietTactic
import Derived.BigQuiet
import Derived.Deep.RegionHeld3
import Derived.Deep.RegionWith
import Derived.Deep.DeepCutAuto
import Derived.Deep.DeepMust
import Derived.Deep.DeepFit
import Derived.Handy
import Derived.OwnWalk
import Derived.Maps.AppendAt
import Derived.Test.YtkkabncicmhjfaaGreatShelf
import Derived.Shelf.Spec.BitsCarry
import Derived.Lib.ItoaNum
import Derived.Deep.CutBlock
import Derived.Test.YtkkabncicmhjfaaGreatProg
import Derived.WalkMore

open Go.Act renaming put → m9
open Go renaming Addr → aG, BinOp → jB, Calls → aQ, Ending → dM, Exit → dQ, IntKind → jP, Oper → aZ, Operand → d7, Program → cC, ResultVar → qT, TypeId → aU, Value → aI, World → a7, bodyPost_ret → iT, run_underlying → qR, wpList_plain → vS
open Go.Addr renaming add → lJ
open Array renaming getD_eq_getD_getElem? → o5, getElem?_eq_some_iff → rH, getElem?_replicate → zX, getElem?_setIfInBounds_ne → zW, replicate → rG
open Go.RowKit.Below renaming heap_setCell → IG
open BitVec renaming ofInt → pM
open Bool renaming and_eq_true → eH, or_eq_true → m8
open Go.Builtin renaming append_ → o4, firstCells → IF, lenOf → wI
open Classical renaming choose → o3, choose_spec → pL
open Go.Deferred renaming ofValue → IE
open Go.Exit renaming inBlock → pK
open Go.Instr renaming loadAt → wH, makeSlice → o2, storeAt → wG
open Int renaming natCast_mul → jR, tdiv_eq_ediv_of_nonneg → wF, toNat_natCast → jQ
open Go.IntKind renaming bits → rE, signed → rD, wrap → tC
open List renaming all_eq_true → eY, any_eq_true → wE, cons_append → pJ, contains_iff_mem → lI, countP_cons → wD, countP_le_length → zU, drop_eq_getElem_cons → mZ, drop_zero → i9, eq_nil_iff_forall_not_mem → wC, eq_nil_of_length_eq_zero → wA, filter_append → ID, getD_eq_getElem?_getD → bE, getElem?_drop → rC, getElem?_eq_getElem → cA, getElem?_eq_none → gM, getElem?_eq_some_iff → fD, getElem?_map → fY, getElem?_take → jO, getElem_mem → rB, getElem_of_mem → rA, getLast_eq_getElem → IC, length_cons → gD, length_drop → mY, length_eq_zero_iff → zT, length_take → dK, map_cons → kH, map_drop → vZ, map_nil → lH, map_take → kG, map_toArray → pI, mem_append → pH, mem_cons → o1, mem_of_mem_drop → zS, mem_of_mem_take → vY, mem_or_eq_of_mem_set → IB, mem_range → fN, mem_replicate → zR, mem_singleton → zQ, range → dB, replicate → dL, replicate_succ → I9, take_append_drop → r9, take_succ_cons → vW
open Nat renaming add_assoc → iW, add_lt_add_iff_right → I8, add_mul → dV, add_mul_div_left → qZ, add_mul_mod_self_left → tB, add_right_cancel_iff → I7, add_zero → eI, beq → mX, div_add_mod → m5, div_eq_of_lt → gC, div_le_self → i8, div_lt_iff_lt_mul → vV, div_lt_of_lt_mul → tA, div_lt_self → qY, eq_of_beq_eq_true → pG, eq_zero_or_pos → kF, le_of_not_lt → qX, le_refl → aS, le_trans → a6, lt_mul_div_succ → t8, lt_of_le_of_lt → lG, lt_of_lt_of_le → d4, lt_of_not_le → t7, lt_or_ge → i7, min_eq_left → gL, mod_add_div → jN, mod_eq_of_lt → fM, mod_lt → gB, mul_add → cS, mul_add_div → o0, mul_assoc → bZ, mul_comm → cM, mul_div_mul_right → zP, mul_le_mul → kE, mul_le_mul_left → fG, mul_le_mul_right → eA, mul_lt_mul'' → vU, mul_lt_mul_of_pos_right → pF, mul_mod_mul_right → vT, mul_one → eG, mul_pos → lF, mul_right_comm → pE, mul_succ → qW, mul_zero → fX, or_lt_two_pow → nZ, pow_add → dU, pow_le_pow_right → i6, pow_lt_pow_iff_right → zO, pow_pos → iO, pow_succ → dJ, strongRecOn → qV, sub_add_cancel → iV, succ_le_of_lt → mW, succ_mul → lE, two_pow_pos → m4, zero_add → eX, zero_le → bJ
open Ne renaming symm → lD
open Go.Next renaming value → jA
open Go.Op renaming intArith → zN
open Go.Oper renaming upon → lW, wp → lC
open Option renaming getD_some → lV, map_some → pD
open Option.some renaming inj → iU, injEq → eF
open Or renaming inl → bS, inr → bW
open Go.Region renaming binds → iN, ready → pC, wanted → qU
open Go.Result renaming andThen_ok → eW
open Go.Sem renaming run_bind → dA, run_pure → gT
open Go.Proofs.Tryz renaming prog → aM
open Go.Value renaming int → gK, pointer → zM
open Go.World.grownBy renaming refl → zL
open Go.World renaming setCell → qS
namespace Go.Proofs.YtkkabncicmhjfaaGreat
set_option maxHeartbeats 4000000
abbrev no(g:Nat)(o:Nat):Value:=.pointer (some ⟨g,o,none⟩)
abbrev v4(k:Int):Value:=.int .i64 k
abbrev AI(k:Int):Value:=.int .u64 k
abbrev AT(A:Option Addr)(n c:Nat):Value:=.slice A n c
abbrev By:Value:=.bool true
abbrev BY:Value:=.bool false
theorem Fo:True:=trivial
theorem G.{z}{α:Sort z}{a:α}:a=a:=rfl
abbrev J(s:Bool)(A:Option Addr)(n c:Nat):Value:=.agg #[.bool s,.slice A n c]
abbrev a9(s:Bool)(A:Option Addr)(n c:Nat)(t:Bool)(B:Option Addr)(m d:Nat):Value:=.agg #[.bool s,.slice A n c,.bool t,.slice B m d]
abbrev O(s:Bool)(A:Option Addr)(n c:Nat):List Value:=[.bool s,.slice A n c]
variable {A B S dp sp:Option aG}{K N V b base bytes cap cap' cc d g hi i id j k lo2 m n n' q r s u u0 u1 u2 un un0 un1 un10 v0 v1 x y yn0 yn1 yy:Nat}{P:cC}{T:Type}{a:Act}{after:Array Edge}{args cs us vs:List aI}{c:Code}{ds fl js l st xs ys zs:List Nat}{dss:List (List Nat)}{dst:Option Tmp}{e t' ty:aU}{er:Int}{f:FuncId}{fn:Func}{gd guard:Option (Nat×Bool)}{listed:Array Bool}{lk:List (Nat×Nat×Nat)}{o:aZ}{ol rest:List aZ}{op:jB}{ops:Array aZ}{p:aG}{ps:List (Nat×Nat)}{rl:List qT}{ts:Array aU}{v vx vy z:aI}{w w' w0 w1 wt:a7}
section
def WB:Nat:=18446744073709551616
theorem fF:0<WB:=by decide
theorem cI:WB=18446744073709551616:=rfl
theorem HH:2≤WB:=by decide
def nv:List Nat→Nat
 | []=>0
 | x::r=>x+WB*nv r
def Wf (xs:List Nat):Prop:=∀x∈xs,x<WB
theorem nH (x:Nat)(r:List Nat):nv (x::r)=x+WB*nv r:=rfl
theorem xQ (xs ys:List Nat):nv (xs++ys)=nv xs+WB^xs.length*nv ys:=by
 induction xs with
 | nil=>simp [nv]
 | cons x r ih=>
  simp only [pJ,nv,ih,gD,dJ]
  rw [cS,←bZ,cM WB (WB^r.length),iW]
theorem gW (h:Wf xs):nv xs<WB^xs.length:=by
 induction xs with
 | nil=>simp [nv]
 | cons x r ih=>
  have hx:x<WB:=h x (by simp)
  have hr:=ih (fun y hy=>h y (by simp [hy]))
  simp only [nv,gD,dJ]
  have:WB*nv r+WB≤WB*WB^r.length:=by
   have:=fG WB (mW hr)
   rw [qW] at this;exact this
  rw [cM (WB^r.length)]
  omega
theorem xO (n:Nat):nv (dL n 0)=0:=by
 induction n with
 | zero=>rfl
 | succ n ih=>simp [I9,nv,ih]
theorem D5 (xs:List Nat)(x:Nat):nv (xs++ [x])=nv xs+WB^xs.length*x:=by
 rw [xQ];simp [nv]
def nB:Nat→Nat→List Nat
 | 0,_=> []
 | f+1,n=>if n=0 then [] else n%WB::nB f (n/WB)
def wd (n:Nat):List Nat:=nB n n
theorem B5 (f:Nat):∀(g n:Nat),n≤f→n≤g→nB f n=nB g n:=by
 induction f with
 | zero=>
  intro g n h _
  have:n=0:=by omega
  subst this
  cases g <;> simp [nB]
 | succ f ih=>
  intro g n h hg
  by_cases h0:n=0
  ·subst h0;cases g <;> simp [nB]
  ·cases g with
   | zero=>omega
   | succ g=>
    have hlt:n/WB<n:=qY (by omega) (by decide)
    simp only [nB,h0,if_false]
    rw [ih g (n/WB) (by omega) (by omega)]
theorem kT:wd 0= []:=rfl
theorem o6 (h:n≠0):wd n=n%WB::wd (n/WB):=by
 have f:n/WB<n:=qY (by omega) (by decide)
 unfold wd
 conv=>lhs;rw [B5 n (n+1) n (aS _) (by omega)]
 simp only [nB,h,if_false]
 rw [B5 n (n/WB) (n/WB) (by omega) (aS _)]
theorem B4 {p:Nat→Prop}(h0:p 0)(hs:∀n,n≠0→p (n/WB)→p n)(n:Nat):p n:=by
 induction n using qV with
 | ind n ih=>
  by_cases h:n=0
  ·subst h;exact h0
  ·exact hs n h (ih _ (qY (by omega) (by decide)))
theorem eD (n:Nat):nv (wd n)=n:=by
 induction n using B4 with
 | h0=>rfl
 | hs n h ih=>rw [o6 h,nH,ih];exact jN n WB
theorem nW (n:Nat):Wf (wd n):=by
 induction n using B4 with
 | h0=>intro x hx;cases hx
 | hs n h ih=>
  rw [o6 h]
  intro x hx
  cases o1.1 hx with
  | inl e=>subst e;exact gB _ fF
  | inr e=>exact ih x e
theorem JJ:wd n= []↔n=0:=by
 constructor
 ·intro h;rw [←eD n,h];rfl
 ·rintro rfl;rfl
theorem kO:(wd n).length=0↔n=0:=by
 rw [zT];exact JJ
theorem B2:∀{xs:List Nat},Wf xs→(∀h:xs≠ [],xs.getLast h≠0)→wd (nv xs)=xs
 | [],_,_=>rfl
 | [x],hw,ht=>by
  have hx:x<WB:=hw x (by simp)
  have p:x≠0:=ht (by simp)
  simp only [nv,fX,eI]
  rw [o6 p,fM hx,gC hx,kT]
 | x::y::r,hw,ht=>by
  have hx:x<WB:=hw x (by simp)
  have ih:=B2 (xs:=y::r) (fun z o=>hw z (by simp [o])) (fun h=>by have:=ht (by simp);simpa [List.getLast_cons] using this)
  have f:nv (y::r)≠0:=by
   intro e
   rw [e,kT] at ih
   cases ih
  have hn:nv (x::y::r)≠0:=by
   rw [nH]
   have:0<WB*nv (y::r):=lF fF (by omega)
   omega
  rw [o6 hn,nH,tB,fM hx,qZ _ _ fF,gC hx,eX,ih]
theorem JI (hw:Wf xs)(ht:xs.length=0∨xs.getD (xs.length-1) 0≠0):wd (nv xs)=xs:=by
 refine B2 hw (fun h=>?_)
 have hl:xs.length≠0:=by simpa using h
 rcases ht with h' | h'
 ·exact absurd h' hl
 ·rw [IC]
  have:xs.length-1<xs.length:=by omega
  rwa [bE,cA this,lV] at h'
theorem oZ (h:Wf xs)(k:Nat):Wf (xs.take k):=fun x hx=>h x (vY hx)
theorem zC (h:Wf xs)(k:Nat):Wf (xs.drop k):=fun x hx=>h x (zS hx)
theorem sP (h:Wf xs)(k:Wf ys):Wf (xs++ys):=fun x hx=>by
 rcases pH.1 hx with e | e
 ·exact h x e
 ·exact k x e
theorem p8 (h:Wf xs)(i:Nat):xs.getD i 0<WB:=by
 by_cases hi:i<xs.length
 ·rw [bE,cA hi];exact h _ (rB hi)
 ·rw [bE,gM (by omega)];exact fF
theorem HA:Wf []:=fun x hx=>by cases hx
theorem mU (n:Nat):Wf (dL n 0):=fun x hx=>by rw [(zR.1 hx).2];exact fF
theorem zB (h:x<WB):Wf [x]:=fun y f=>by rw [zQ.1 f];exact h
theorem fW (h:Wf xs)(i:Nat)(hx:x<WB):Wf (xs.set i x):=fun y f=>by
 rcases IB f with e | e
 ·exact h y e
 ·rw [e];exact hx
theorem rN {α:Type}(xs:List α)(k:Nat)(h:k<xs.length)(d:α):xs.take (k+1)=xs.take k++ [xs.getD k d]:=by
 rw [List.take_succ_eq_append_getElem h,bE,cA h];rfl
theorem eE (xs:List Nat)(k:Nat)(h:k<xs.length):nv (xs.take (k+1))=nv (xs.take k)+WB^k*xs.getD k 0:=by
 rw [rN xs k h 0,D5,dK,gL (by omega)]
theorem lN (xs:List Nat)(k:Nat)(h:k≤xs.length):nv xs=nv (xs.take k)+WB^k*nv (xs.drop k):=by
 have:=xQ (xs.take k) (xs.drop k)
 rw [r9,dK,gL h] at this
 exact this
theorem oH (xs:List Nat)(k:Nat)(h:k<xs.length)(h0:xs.getD k 0=0):nv (xs.take (k+1))=nv (xs.take k):=by
 rw [eE xs k h,h0];simp
theorem jF (h:Wf xs)(k:Nat):nv (xs.take k)<WB^k:=by
 have f:=gW (oZ h k)
 have o:WB^(xs.take k).length≤WB^k:=i6 fF (by rw [dK];omega)
 omega
theorem rJ (hw:Wf xs)(hk:k≤xs.length)(hv:nv (xs.take k)=nv xs)(ht:k=0∨xs.getD (k-1) 0≠0):wd (nv xs)=xs.take k:=by
 have hl:(xs.take k).length=k:=by rw [dK];omega
 rw [←hv]
 refine JI (oZ hw k) ?_
 rw [hl]
 rcases ht with h | h
 ·exact bS h
 ·by_cases f:k=0
  ·exact bS f
  ·refine bW ?_
   rw [bE,jO,if_pos (by omega),←bE]
   exact h
theorem jY (h : n < WB ^ k): (wd n).length ≤ k := by
  induction k generalizing n with
  | zero => have : n = 0 := by simp at h; omega
            subst this; simp [kT]
  | succ k ih =>
    by_cases h0 : n = 0
    · subst h0; simp [kT]
    · rw [o6 h0, gD]
      have : n / WB < WB ^ k := by rw [vV fF]; rwa [← dJ]
      have := ih this
      omega
theorem nK (n:Nat):n<WB^(wd n).length:=by
 have:=gW (nW n)
 rwa [eD] at this
theorem CS (h:n≠0):WB^((wd n).length-1)≤n:=by
 refine qX (fun f=>?_)
 have o:=jY f
 have p:(wd n).length≠0:=fun e=>h (kO.1 e)
 omega
theorem gP (h:Wf xs):(wd (nv xs)).length≤xs.length:=jY (gW h)
theorem jX {a:Nat}(h:a≤b):(wd a).length≤(wd b).length:=jY (lG h (nK b))
theorem y4 (a b:Nat):(wd (a+b)).length≤max (wd a).length (wd b).length+1:=by
 refine jY ?_
 have h:=nK a
 have hb:=nK b
 have f:WB^(wd a).length≤WB^max (wd a).length (wd b).length:=i6 fF (Nat.le_max_left _ _)
 have p:WB^(wd b).length≤WB^max (wd a).length (wd b).length:=i6 fF (Nat.le_max_right _ _)
 rw [dJ]
 have o:WB^max (wd a).length (wd b).length*2≤WB^max (wd a).length (wd b).length*WB:=fG _ HH
 omega
theorem E8 (a b:Nat):(wd (a*b)).length≤(wd a).length+(wd b).length:=by
 refine jY ?_
 rw [dU]
 by_cases f:a=0
 ·subst f;simp only [Nat.zero_mul];exact lF (iO fF) (iO fF)
 ·exact vU (nK a) (nK b)
theorem wR (h:x<WB)(h0:x≠0):wd x= [x]:=by
 rw [o6 h0,fM h,gC h,kT]
theorem mD:∀{xs:List Nat}{m:Nat},Wf xs→m=(wd (nv xs)).length→wd (nv xs)=xs.take m
 | [],m,_,h=>by simp [nv,kT]
 | x::r,m,hw,h=>by
  have hx:x<WB:=hw x (by simp)
  by_cases f:nv (x::r)=0
  ·rw [f,kT] at h⊢
   subst h;rfl
  ·have p:nv (x::r)/WB=nv r:=by rw [nH,qZ _ _ fF,gC hx,eX]
   have hm:nv (x::r)%WB=x:=by rw [nH,tB,fM hx]
   rw [o6 f,p,hm] at h⊢
   obtain⟨k,rfl⟩:∃k,m=k+1:=⟨m-1,by rw [h,gD];rfl⟩
   rw [gD] at h
   rw [vW,←mD (fun y o=>hw y (by simp [o])) (by omega)]
def dY (a b:Nat):Int:=if a<b then-1 else if a=b then 0 else 1
theorem uZ {a:Nat}(h:a<b):dY a b= -1:=by simp [dY,h]
theorem GG (a:Nat):dY a a=0:=by simp [dY]
theorem v8 {a:Nat}(h:b<a):dY a b=1:=by
 unfold dY;rw [if_neg (by omega),if_neg (by omega)]
theorem GH (a b:Nat): -1≤dY a b∧dY a b≤1:=by
 unfold dY;split
 ·omega
 ·split <;> omega
theorem mP {a:Nat}:dY a b<0↔a<b:=by
 unfold dY;split
 ·simp_all
 ·split <;> simp_all
theorem S9 {a:Nat}:0<dY a b↔b<a:=by
 unfold dY;split
 ·simp_all;omega
 ·split <;> simp_all;omega
theorem DU {a:Nat}(h:(wd a).length<(wd b).length):a<b:=by
 refine t7 (fun f=>?_)
 have:=jX f
 omega
theorem D3 (hx:Wf xs)(hkx:k<xs.length)(hky:k<ys.length)(h:xs.getD k 0<ys.getD k 0):nv (xs.take (k+1))<nv (ys.take (k+1)):=by
 rw [eE xs k hkx,eE ys k hky]
 have f:=jF hx k
 have o:WB^k*xs.getD k 0+WB^k≤WB^k*ys.getD k 0:=by
  have:=fG (WB^k) (mW h)
  rwa [qW] at this
 omega
theorem S8 (hkx:k<xs.length)(hky:k<ys.length)(h:xs.getD k 0=ys.getD k 0):dY (nv (xs.take (k+1))) (nv (ys.take (k+1)))=dY (nv (xs.take k)) (nv (ys.take k)):=by
 rw [eE xs k hkx,eE ys k hky,h]
 unfold dY
 simp only [I8,I7]
theorem nF (hw:Wf xs)(h:m=(wd (nv xs)).length):nv (xs.take m)=nv xs:=by
 rw [←mD hw h,eD]
theorem u4 (x:Nat):nv [x]=x:=by simp [nv]
end
section
open Go.RowKit
abbrev aY (x:Nat):aI:= AI (x:Int)
theorem LK {k:jP}{a b:Int}(h:a=b):Ending.returned (.int k a)= .returned (.int k b):=by rw [h]
theorem eP {k:jP}{a b:Int}(h:a=b:=by omega):gK k a=gK k b:=by rw [h]
theorem sL (a:aG)(n:Nat):(a.add n).block=a.block:=by unfold lJ;split <;> rfl
theorem kY (a:aG)(i j:Nat):(a.add i).add j=a.add (i+j):=by
 unfold lJ
 by_cases hi:i=0 <;> by_cases hj:j=0 <;> simp [hi,hj,iW]
theorem fL (g o i:Nat):(⟨g,o,none⟩:aG).add i=⟨g,o+i,none⟩:=by
 unfold lJ;split <;> simp_all
structure Ext (w w':a7):Prop where
 below:Below w.heap.size w w'
theorem Ext.refl (w:a7):Ext w w:=⟨Below.refl _ _⟩
theorem Ext.trans {a b c:a7}(h:Ext a b)(k:Ext b c):Ext a c:=⟨h.below.trans (k.below.mono h.below.size)⟩
theorem Ext.t {a b c:a7}(h : Ext a b)(k : Ext b c): Ext a c := h.trans k
theorem aD {a:a7}: Ext a a := Ext.refl a
theorem Ext.size {a b:a7}(h:Ext a b):a.heap.size≤b.heap.size:=h.below.size
theorem Ext.alloc {a:a7}(h:Ext a w)(o:Obj):Ext a (w.alloc o):=⟨h.below.alloc h.below.size o⟩
theorem Ext.drew {a:a7}(h:Ext a w):Ext a w.drew:=⟨h.below.drew⟩
theorem Ext.drewN {a:a7}(h:Ext a w)(n:Nat):Ext a (w.drewN n):=⟨⟨h.below.os,h.below.tape,h.below.output,h.below.size,h.below.block⟩⟩
theorem Ext.setCell {a:a7}(h:Ext a w)(hp:a.heap.size≤p.block)(u:aI):Ext a (w.setCell p u):=⟨h.below.setCell hp u⟩
theorem Ext.grown {a:a7}{row:Option Nat}(h:Ext a w)(hg:w.grownBy w' row)(hr:∀k,row=some k→a.heap.size≤k):Ext a w':=⟨h.below.grown hg h.below.size hr⟩
theorem Ext.of_grown (hg:w.grownBy w' none):Ext w w':=(Ext.refl w).grown hg (fun _ h=>by cases h)
theorem Ext.cell (h:Ext w w')(hc:w.cell? p=some v):w'.cell? p=some v:=
 (h.below.cell (World.block_lt_of_cell? w p hc)).trans hc
theorem Ext.heap (h:Ext w w'){o:Obj}(hc:w.heap[g]?=some o):w'.heap[g]?=some o:=
 (h.below.block g (rH.1 hc).1).trans hc
structure Upd (g:Nat)(w w':a7):Prop where
 by_:w.grownBy w' (some g)
theorem Upd.ext {a:a7}(h:Upd g w w')(e:Ext a w)(hg:a.heap.size≤g):Ext a w':=e.grown h.by_ (fun k f=>by cases f;exact hg)
theorem Upd.refl (g:Nat)(w:a7):Upd g w w:=⟨zL _ _⟩
theorem Upd.trans {a b c:a7}(h:Upd g a b)(k:Upd g b c):Upd g a c:=
 ⟨⟨k.by_.os.trans h.by_.os,k.by_.tape.trans h.by_.tape,k.by_.output.trans h.by_.output,a6 h.by_.size k.by_.size,
  fun i hi f=>(k.by_.block i (d4 hi h.by_.size) f).trans (h.by_.block i hi f)⟩⟩
theorem Upd.setCell {a:a7}(h:Upd g a w)(i:Nat)(u:aI):Upd g a (w.setCell ⟨g,i,none⟩ u):=
 h.trans ⟨⟨rfl,rfl,rfl,by simp [qS],fun k _ f=>IG _ _ _ _ (fun e=>f (by rw [e]))⟩⟩
theorem Upd.drew {a:a7}(h:Upd g a w):Upd g a w.drew:=⟨⟨h.by_.os,h.by_.tape,h.by_.output,h.by_.size,h.by_.block⟩⟩
theorem Upd.then_ext {a:a7}(h:Upd g a w)(e:Ext w w'):Upd g a w':=
 h.trans ⟨⟨e.below.os,e.below.tape,e.below.output,e.below.size,fun k f _=>e.below.block k f⟩⟩
theorem Upd.of_ext (e:Ext w w'):Upd g w w':=(Upd.refl g w).then_ext e
theorem Upd.heap (h:Upd g w w'){o:Obj}(hc:w.heap[k]?=some o)(hne:k≠g):w'.heap[k]?=some o:=
 (h.by_.block k (rH.1 hc).1 (fun e=>hne (iU e))).trans hc
theorem Upd.size (h:Upd g w w'):w.heap.size≤w'.heap.size:=h.by_.size
theorem Upd.cell (h:Upd g w w')(hc:w.cell? p=some v)(hne:p.block≠g):w'.cell? p=some v:=
 h.by_.cell hc (fun e=>hne (iU e))
structure Rv (w:a7)(s:Nat)(A:Option aG)(n cap:Nat)(vs:List aI):Prop where
 len:vs.length=n*s
 le:n≤cap
 max:cap≤maxLen
 get:∀i,i<n*s→∃a,A=some a∧w.cell? (a.add i)=some (vs.getD i undef)
 blk:∀a,A=some a→0<cap→a.block<w.heap.size
theorem Rv.ext (h:Rv w s A n cap vs)(e:Ext w w'):Rv w' s A n cap vs:=
 ⟨h.len,h.le,h.max,fun i hi=>by obtain⟨a,f,o⟩:=h.get i hi;exact⟨a,f,e.cell o⟩,fun a f o=>d4 (h.blk a f o) e.size⟩
theorem Rv.upd (h:Rv w s A n cap vs)(e:Upd g w w')(hne:∀a,A=some a→a.block≠g):Rv w' s A n cap vs:=
 ⟨h.len,h.le,h.max,fun i hi=>by obtain⟨a,f,o⟩:=h.get i hi;exact⟨a,f,e.cell o (by rw [sL];exact hne a f)⟩,fun a f o=>d4 (h.blk a f o) e.size⟩
theorem Rv.nil (w:a7)(s:Nat):Rv w s none 0 0 []:=⟨by simp,aS _,by decide,fun i hi=>by omega,fun a f=>by cases f⟩
theorem Rv.cut (h:Rv w s A n cap vs){l:Nat}(hl:l≤k)(hk:k≤n)(hm:k≤m)(hc:m≤cap):Rv w s (if m=l then A else A.map (·.add (l*s))) (k-l) (m-l) ((vs.take (k*s)).drop (l*s)):=by
 have q:k*s≤n*s:=eA s hk
 have D:l*s≤k*s:=eA s hl
 refine⟨?_,by omega,a6 (by omega) h.max,fun i hi=>?_,fun a o _=>?_⟩
 ·rw [mY,dK,h.len,Nat.sub_mul,gL q]
 ·rw [Nat.sub_mul] at hi
  obtain⟨a,o,f⟩:=h.get (l*s+i) (by omega)
  have p:¬m=l:=fun e=>by
   have:k=l:=by omega
   subst this;omega
  rw [if_neg p,o]
  refine⟨a.add (l*s),rfl,?_⟩
  rw [kY,f]
  congr 1
  simp only [bE,rC]
  rw [jO,if_pos (by omega)]
 ·split at o
  ·exact h.blk a o (by omega)
  ·cases A with
   | none=>cases o
   | some b=>simp only [pD,eF] at o;subst o;rw [sL];exact h.blk b rfl (by omega)
structure Rd (w:a7)(A:Option aG)(n cap:Nat)(xs:List Nat):Prop where
 rv:Rv w 1 A n cap (xs.map aY)
 wf:Wf xs
theorem Rd.ext (h:Rd w A n cap xs)(e:Ext w w'):Rd w' A n cap xs:=⟨h.rv.ext e,h.wf⟩
theorem Rd.upd (h:Rd w A n cap xs)(e:Upd g w w')(hne:∀a,A=some a→a.block≠g):Rd w' A n cap xs:=⟨h.rv.upd e hne,h.wf⟩
theorem Rd.len (h:Rd w A n cap xs):xs.length=n:=by simpa using h.rv.len
theorem Rd.nil (w:a7):Rd w none 0 0 []:=⟨Rv.nil w 1,HA⟩
theorem Rd.get (h:Rd w A n cap xs)(hi:i<n):∃a x,A=some a∧Hid (xs.getD i 0=x)∧x≤18446744073709551615∧w.cell? (a.add i)=some (AI (x:Int)):=by
 obtain⟨a,o,p⟩:=h.rv.get i (by omega)
 have hl:i<xs.length:=by rw [h.len];exact hi
 have f:=p8 h.wf i
 refine⟨a,_,o,rfl,by rw [cI] at f;omega,?_⟩
 rw [p]
 simp [bE,fY,cA hl]
theorem Rd.cut (h:Rd w A n cap xs){l:Nat}(hl:l≤k)(hk:k≤n)(hm:k≤m)(hc:m≤cap):Rd w (if m=l then A else A.map (·.add l)) (k-l) (m-l) ((xs.take k).drop l):=by
 have:=h.rv.cut hl hk hm hc
 simp only [eG] at this
 refine⟨?_,zC (oZ h.wf _) _⟩
 rw [vZ,kG]
 exact this
theorem Rd.take (h:Rd w A n cap xs)(hk:k≤n)(hm:k≤m)(hc:m≤cap):Rd w A k m (xs.take k):=by
 have:=h.cut (l:=0) (bJ _) hk hm hc
 simp only [Nat.sub_zero,i9] at this
 have e:(if m=0 then A else A.map (·.add 0))=A:=by
  have f:∀a:aG,a.add 0=a:=fun a=>by simp [lJ]
  split
  ·rfl
  ·cases A <;> simp [f]
 rwa [e] at this
def Bk (w:a7)(g:Nat)(t:aU)(vs:List aI):Prop:=w.heap[g]?=some (.cells vs.toArray t (0,0))
section
variable {w w':a7}{g:Nat}{t:aU}{vs:List aI}
theorem Bk.lt (h:Bk w g t vs):g<w.heap.size:=(rH.1 h).1
theorem Bk.ext (h:Bk w g t vs)(e:Ext w w'):Bk w' g t vs:=e.heap h
theorem Bk.upd (h:Bk w g t vs)(e:Upd k w w')(hne:g≠k):Bk w' g t vs:=e.heap h hne
theorem Bk.cell (h:Bk w g t vs)(hi:i<vs.length):w.cell? ⟨g,i,none⟩=some (vs.getD i undef):=by
 rw [cell_of_row w g i _ t (0,0) h]
 simp [bE,cA hi]
theorem Bk.frozen (h:Bk w g t vs)(i:Nat):w.frozen? ⟨g,i,none⟩=false:=by
 unfold Bk at h
 simp [World.frozen?,h]
theorem Bk.new (w:a7)(t:aU)(vs:List aI):Bk (w.alloc (.cells vs.toArray t)) w.heap.size t vs:=heap_alloc_new w _
theorem Bk.new' (w:a7)(t:aU)(cs:Array aI):Bk (w.alloc (.cells cs t)) w.heap.size t cs.toList:=heap_alloc_new w _
theorem Bk.set (h:Bk w g t vs)(i:Nat)(u:aI):Bk (w.setCell ⟨g,i,none⟩ u) g t (vs.set i u):=by
 unfold Bk at h⊢
 simp [qS,Array.getElem?_modify,h]
theorem Bk.far (h:Bk w g t vs)(hp:g≠p.block)(u:aI):Bk (w.setCell p u) g t vs:=(IG w p u g hp).trans h
theorem Bk.alloc (h:Bk w g t vs)(o:Obj):Bk (w.alloc o) g t vs:=h.ext ((Ext.refl w).alloc o)
theorem Bk.drew (h:Bk w g t vs):Bk w.drew g t vs:=h
theorem Bk.drewN (h:Bk w g t vs)(n:Nat):Bk (w.drewN n) g t vs:=h
theorem Bk.rv (h:Bk w g t vs){o:Nat}(hn:n≤cap)(hc:o+cap≤vs.length)(hm:cap≤maxLen):Rv w 1 (some ⟨g,o,none⟩) n cap ((vs.drop o).take n):=by
 refine⟨by rw [dK,mY];omega,hn,hm,fun i hi=>⟨_,rfl,?_⟩,fun a f _=>by cases f;exact h.lt⟩
 rw [fL,h.cell (by omega)]
 congr 1
 simp only [bE,jO,rC]
 rw [if_pos (by omega)]
theorem Bk.rd (h:Bk w g t (xs.map aY))(hw:Wf xs){o:Nat}(hn:n≤cap)(hc:o+cap≤xs.length)(hm:cap≤maxLen):Rd w (some ⟨g,o,none⟩) n cap ((xs.drop o).take n):=by
 refine⟨?_,oZ (zC hw _) _⟩
 rw [kG,vZ]
 exact h.rv hn (by simpa using hc) hm
end
theorem Bk.word {t:aU}(h:Bk w g t (xs.map aY))(hw:Wf xs)(hi:i<xs.length):∃x,Hid (xs.getD i 0=x)∧x≤18446744073709551615∧w.cell? ⟨g,i,none⟩=some (AI (x:Int)):=by
 have f:=p8 hw i
 refine⟨_,rfl,by rw [cI] at f;omega,?_⟩
 rw [h.cell (by simpa using hi)]
 simp [bE,fY,cA hi]
def Own (w:a7)(base:Nat)(t:aU)(s:Nat)(A:Option aG)(n cap:Nat)(vs:List aI):Prop:=
 (A=none∧n=0∧cap=0∧vs= [])∨∃g cs,A=some ⟨g,0,none⟩∧base≤g∧Bk w g t cs∧n≤cap∧cap≤maxLen∧cs.length=cap*s∧cs.take (n*s)=vs
section
variable {w w':a7}{base:Nat}{t:aU}{s:Nat}{A:Option aG}{n cap:Nat}{vs:List aI}
theorem Own.nil (w:a7)(base:Nat)(t:aU)(s:Nat):Own w base t s none 0 0 []:=bS ⟨rfl,rfl,rfl,rfl⟩
theorem Own.mk_ (hb:base≤g)(h:Bk w g t cs)(hn:n≤cap)(hm:cap≤maxLen)(hl:cs.length=cap*s)(hv:cs.take (n*s)=vs):Own w base t s (some ⟨g,0,none⟩) n cap vs:=
 bW ⟨g,cs,rfl,hb,h,hn,hm,hl,hv⟩
theorem Own.ext (h:Own w base t s A n cap vs)(e:Ext w w'):Own w' base t s A n cap vs:=by
 rcases h with h | ⟨g,cs,f,hb,o,r⟩
 ·exact bS h
 ·exact bW ⟨g,cs,f,hb,o.ext e,r⟩
theorem Own.upd (h:Own w base t s A n cap vs)(e:Upd k w w')(hne:∀a,A=some a→a.block≠k):Own w' base t s A n cap vs:=by
 rcases h with h | ⟨g,cs,f,hb,o,r⟩
 ·exact bS h
 ·exact bW ⟨g,cs,f,hb,o.upd e (hne _ f),r⟩
theorem Own.mono {base':Nat}(h:Own w base t s A n cap vs)(hb:base'≤base):Own w base' t s A n cap vs:=by
 rcases h with h | ⟨g,cs,f,_,r⟩
 ·exact bS h
 ·exact bW ⟨g,cs,f,by omega,r⟩
theorem Own.rv (h:Own w base t s A n cap vs):Rv w s A n cap vs:=by
 rcases h with⟨rfl,rfl,rfl,rfl⟩ | ⟨g,cs,rfl,hb,f,hn,hm,hl,rfl⟩
 ·exact Rv.nil w s
 ·have o:n*s≤cap*s:=eA s hn
  refine⟨by rw [dK];omega,hn,hm,fun i hi=>⟨_,rfl,?_⟩,fun a p _=>by cases p;exact f.lt⟩
  rw [fL,eX,f.cell (by omega)]
  congr 1
  simp only [bE,jO]
  rw [if_pos hi]
theorem Own.rd (h:Own w base t 1 A n cap (xs.map aY))(hw:Wf xs):Rd w A n cap xs:=⟨h.rv,hw⟩
theorem Own.block (h:Own w base t s A n cap vs):∀a,A=some a→base≤a.block∧a.block<w.heap.size:=by
 intro a f
 rcases h with h | ⟨g,cs,o,hb,p,_⟩
 ·rw [h.1] at f;cases f
 ·rw [o] at f;cases f;exact⟨hb,p.lt⟩
end
theorem eB:maxLen=9223372036854775807:=rfl
theorem dO (xs:List Nat)(i x:Nat):(xs.map aY).set i (AI (x:Int))=(xs.set i x).map aY:=by rw [List.map_set]
def zc (z:aI)(n:Nat):Array aI:=(dL n z).toArray
theorem tF (z:aI)(n:Nat):(zc z n).toList=dL n z:=rfl
theorem jV {t:aU}(ht:P.underlying t=some (.slice e))(hinfo:(P.info? e).map (fun i=>(i.zero,i.size,i.bytes))=some (some z,1,bytes))(hz:z.cells= #[z])(hby:bytes≤64)(l:Int)(h0:0≤l)(h1:l≤1099511627776)(w:a7):(o2 t (v4 l) (v4 l)).run P w= .ok (AT (some ⟨w.heap.size,0,none⟩) l.toNat l.toNat) (w.alloc (.cells (zc z l.toNat) e)):=by
 obtain⟨i,hi,p,o,f⟩:=info_parts hinfo
 have h:=run_make (P:=P) w t e i z ht hi p .i64 .i64 l l h0 (Int.le_refl _) (by rw [f];have:(bytes:Int)*l≤64*1099511627776:=Int.mul_le_mul (by omega) h1 h0 (by omega);omega) (by omega)
 rw [h,o,eG,hz]
 congr 3
 apply Array.ext'
 rw [toList_madeCells_one,tF]
theorem C6 {t:aU}(ht:P.underlying t=some (.slice e))(hinfo:(P.info? e).map (fun i=>(i.zero,i.size,i.bytes))=some (some z,1,bytes))(hz:z.cells= #[z])(hby:bytes≤64)(l:Int)(h0:0≤l)(h1:l≤1099511627776)(w:a7):(o2 t (v4 0) (v4 l)).run P w= .ok (AT (some ⟨w.heap.size,0,none⟩) 0 l.toNat) (w.alloc (.cells (zc z l.toNat) e)):=by
 obtain⟨i,hi,p,o,f⟩:=info_parts hinfo
 have h:=run_make (P:=P) w t e i z ht hi p .i64 .i64 0 l (by omega) h0 (by rw [f];have:(bytes:Int)*l≤64*1099511627776:=Int.mul_le_mul (by omega) h1 h0 (by omega);omega) (by omega)
 rw [h,o,eG,hz]
 congr 3
 apply Array.ext'
 rw [toList_madeCells_one,tF]
theorem Upd.setRow {a:a7}(h:Upd g a w)(cs:Array aI):Upd g a (w.setRow g cs):=
 h.trans ⟨⟨rfl,rfl,rfl,by simp [World.setRow],fun k _ f=>setRow_other w g k cs (fun e=>f (by rw [e]))⟩⟩
theorem dE {Q:dQ→Act→a7→Prop}(d:Option Tmp){op:Op}{type:aU}{pos:String}(h:wpList P ops Q (⟨d,op,type,pos,after,guard⟩::rest) a w):wpList P ops Q (⟨d,op,type,pos,after,guard⟩::rest) a w:=h
theorem wN {Q:dQ→Act→a7→Prop}(hgd:o.guard=none)(d s:d7)(dT sT:aU)(ho:o.op= .call {callee:= .builtin .copy,args:= #[d,s],argTypes:= #[dT,sT]}){dLen dCap sLen sCap:Nat}(hd:a.eval d= AT dp dLen dCap)(hs:a.eval s= AT sp sLen sCap){elem:aU}(hu:P.underlying dT=some (.slice elem))(hsz:(P.info? elem).map (·.size)=some 1){off:Nat}{t:aU}(hg:Bk w g t vs)(hsrc:Rv w 1 sp sLen sCap us)(hpos:0<dLen→dp=some ⟨g,off,none⟩)(hfit:off+dLen≤vs.length)(h1:∀v∈us,v.oneCell'=true)(h:∀w',Bk w' g t (splice vs off (us.take dLen))→Upd g w w'→wpList P ops Q rest (a.put o.dst (goInt (min sLen dLen:Nat))) w'):wpList P ops Q (o::rest) a w:=by
 have f:us.length=sLen:=by simpa using hsrc.len
 have hl:(us.take dLen).length=Nat.min sLen dLen:=by rw [dK,f,Nat.min_comm]
 by_cases q:Nat.min sLen dLen=0
 ·refine wpList_copy_nothing hgd d s dT sT ho elem hu hsz dp sp dLen dCap sLen sCap hd hs q ?_
  have e:us.take dLen= []:=wA (by omega)
  have:=h w (by rw [e];simpa [splice] using hg) (Upd.refl g w)
  rwa [show (min sLen dLen:Nat)=0 from q] at this
 ·have h0':¬min sLen dLen=0:=q
  have D:0<dLen:=by omega
  obtain⟨ad,rfl,_⟩:=hsrc.get 0 (by omega)
  obtain rfl:=hpos D
  refine wpList_copy_own hgd d s dT sT ho elem hu hsz g off dLen dCap ad sLen sCap hd hs vs.toArray t hg (us.take dLen) hl ?_ ?_ (fun v p=>h1 v (vY p)) ?_
  ·intro j v p
   have hj:j<(us.take dLen).length:=(fD.1 p).1
   have hj':j<min sLen dLen:=by rw [hl] at hj;exact hj
   obtain⟨a',ha',E⟩:=hsrc.get j (by omega)
   cases ha'
   rw [E,←p,jO,if_pos (by omega),bE,cA (by omega)]
   rfl
  ·simp only [List.size_toArray]
   have:(us.take dLen).length≤dLen:=by rw [dK];omega
   omega
  ·have h':=h
   rw [show min sLen dLen=(us.take dLen).length from hl.symm] at h'
   refine h' _ ?_ ((Upd.refl g w).setRow _)
   show _=_
   simpa [splice] using setRow_heap w g _ _ t _ hg
structure UpdO (A:Option aG)(w w':a7):Prop where
 by_:w.grownBy w' (A.map (·.block))
theorem UpdO.ext {a:a7}(h:UpdO A w w')(e:Ext a w)(hA:∀p,A=some p→a.heap.size≤p.block):Ext a w':=
 e.grown h.by_ (fun k f=>by cases A with | none=>cases f | some p=>cases f;exact hA p G)
theorem UpdO.heap (h:UpdO A w w'){o:Obj}(hc:w.heap[k]?=some o)(hne:∀p,A=some p→p.block≠k):w'.heap[k]?=some o:=
 (h.by_.block k (rH.1 hc).1 (fun e=>by cases A with | none=>cases e | some p=>cases e;exact hne p G G)).trans hc
theorem UpdO.size (h:UpdO A w w'):w.heap.size≤w'.heap.size:=h.by_.size
theorem Bk.updO {t:aU}(h:Bk w g t vs)(e:UpdO A w w')(hne:∀p,A=some p→p.block≠g):Bk w' g t vs:=e.heap h hne
theorem Own.updO {t:aU}(h:Own w base t s B n cap vs)(e:UpdO A w w')(hne:∀p q,A=some p→B=some q→p.block≠q.block):Own w' base t s B n cap vs:=by
 rcases h with h | ⟨g,cs,f,hb,o,r⟩
 ·exact bS h
 ·exact bW ⟨g,cs,f,hb,o.updO e (fun p D=>hne p _ D f),r⟩
theorem Own.row {t:aU}(h:Own w base t s A n cap vs):w.ownsRow base t s (AT A n cap) n vs:=by
 rcases h with⟨rfl,rfl,rfl,rfl⟩ | ⟨g,cs,rfl,hb,o,hn,hm,hl,rfl⟩
 ·exact⟨by simp,bS ⟨rfl,rfl⟩⟩
 ·have f:n*s≤cap*s:=eA s hn
  exact⟨by rw [dK];omega,bW ⟨g,cap,cs.toArray,rfl,hb,o,hn,hm,by simpa using hl,by simp⟩⟩
theorem Own.of_row {t:aU}(h:w.ownsRow base t s v n vs):∃A cap,v= AT A n cap∧Own w base t s A n cap vs:=by
 obtain⟨hl,h⟩:=h
 rcases h with⟨rfl,rfl⟩ | ⟨g,cap,cur,rfl,hb,f,hn,hm,hs,o⟩
 ·exact⟨none,0,rfl,bS ⟨rfl,rfl,rfl,wA (by simpa using hl)⟩⟩
 ·exact⟨_,_,rfl,bW ⟨g,cur.toList,rfl,hb,by unfold Bk;simpa using f,hn,hm,by simpa using hs,o⟩⟩
theorem xL (A:Option aG)(n cap:Nat):(Value.slice A n cap).ownBlock=A.map (·.block):=by cases A <;> rfl
theorem CA (w:a7)(base:Nat)(t ty e:aU)(i:TypeInfo)(size:Nat)(ht:P.underlying t=some (.slice e))(hi:P.info? e=some i)(v:aI)(n:Nat)(xs:List aI)(hown:w.ownsRow base e size v n xs)(c:Nat):(o4 #[t,t] ty #[v,AT none 0 c]).run P w= .ok v w:=by
 rcases hown.2 with⟨rfl,rfl⟩ | ⟨g,cap,cur,rfl,_,_,f,_⟩
 ·simp [o4,qR ht,sizeOf,typeInfo,hi,wI,IF]
 ·simp [o4,qR ht,sizeOf,typeInfo,hi,wI,IF,f,storeCells]
theorem AO {Q:dQ→Act→a7→Prop}(hgd:o.guard=none)(s x:d7)(t:aU)(ho:o.op= .call {callee:= .builtin .append,args:= #[s,x],argTypes:= #[t,t]}){c:Nat}(hs:a.eval s= AT A n cap)(hx:a.eval x= AT S m c){size:Nat}(ht:P.underlying t=some (.slice e))(hinfo:(P.info? e).map (fun i=>(i.zero,i.size,i.bytes))=some (some z,size,bytes))(hzs:z.cells.size=size)(hsz:0<size){news:List aI}(hown:Own w base e size A n cap vs)(hsrc:Rv w size S m c news)(h1:∀u∈news,u.oneCell'=true)(hbytes:(n+m)*bytes≤140737488355328)(h63:n+m≤maxLen)(hbase:base≤w.heap.size)(h:∀A' cap' w',Own w' base e size A' (n+m) cap' (vs++news)→UpdO A w w'→(A'.map (·.block)=A.map (·.block)∨A'.map (·.block)=some w.heap.size)→
   wpList P ops Q rest (a.put o.dst (AT A' (n+m) cap')) w'):wpList P ops Q (o::rest) a w:=by
 obtain⟨i,hi,D,p,f⟩:=info_parts hinfo
 cases S with
 | none=>
  have hm:m=0:=by
   rcases kF m with q | q
   ·exact q
   ·obtain⟨ad,h,_⟩:=hsrc.get 0 (lF q hsz)
    cases h
  subst hm
  have hn:news= []:=wA (by simpa using hsrc.len)
  subst hn
  refine vS hgd fun K U=>?_
  have hr:=CA (P:=P) w base t o.type e i size ht hi (AT A n cap) n vs hown.row c
  unfold lC execOp
  simp only [ho,resolve,invoke,builtin,dA,gT,eW,pI,kH,lH,hs,hx,hr]
  exact U _ _ (h A cap w (by simpa using hown) ⟨zL _ _⟩ (bS G))
 | some ad=>
  refine wpList_append_own_at w hgd s x t ho base e i z size bytes ht hi D p f hzs hsz (AT A n cap) n vs hs hown.row ad m c news hx hsrc.len ?_ h1 h63 hbytes hbase ?_
  ·intro j u F
   have hj:j<news.length:=(fD.1 F).1
   obtain⟨a',ha',M⟩:=hsrc.get j (by rw [←hsrc.len];exact hj)
   cases ha'
   rw [M,←F,bE,cA hj]
   rfl
  ·intro v' w' L E _ H
   obtain⟨A',cap',rfl,I⟩:=Own.of_row L
   rw [xL,xL] at H
   rw [xL] at E
   exact h A' cap' w' I ⟨E⟩ H
theorem Rv.one (w:a7)(t:aU)(v:aI):Rv (w.alloc (.cells #[v] t)) 1 (some ⟨w.heap.size,0,none⟩) 1 1 [v]:=by
 have h:=Bk.new w t [v]
 exact h.rv (o:=0) (n:=1) (cap:=1) (aS _) (by simp) (by rw [eB];omega)
theorem zD (xs:List Nat):∀v∈xs.map aY,v.oneCell'=true:=by
 intro v f
 obtain⟨x,_,rfl⟩:=List.mem_map.1 f
 rfl
theorem wV (xs ys:List Nat)(o:Nat):splice (xs.map aY) o (ys.map aY)=(splice xs o ys).map aY:=by
 simp [splice,kG,vZ]
theorem KM {α:Type}(xs ys:List α)(h:ys.length=xs.length):splice xs 0 ys=ys:=by
 simp [splice,h]
theorem jC (n:Nat):dL n (gK .u64 0)=(dL n 0).map aY:=by rw [List.map_replicate];rfl
abbrev Fr:=List (Nat×aI)
def look:Fr→Nat→Option aI
 | [],_=>none
 | (j,v)::l,i=>bif mX j i then some v else look l i
structure Rp (n:Nat)(l:Fr)(a:Act):Prop where
 size:a.tmps.size=n
 nod:a.defers= []
 val:∀i v,look l i=some v→a.tmps.getD i undef=v
def bY (l:Fr):d7→Option aI
 | .tmp i=>look l i
 | .const v=>some v
 | .global g=>some (.pointer (some ⟨g,0,none⟩))
 | .func f=>some (.func (.func f) #[] #[])
def rho (l:Fr)(x:d7):aI:=(bY l x).getD undef
theorem Rp.ev {l:Fr}(h:Rp n l a){x:d7}(hx:bY l x=some v):a.eval x=v:=by
 cases x with
 | tmp i=>exact h.val i v hx
 | const u=>exact iU hx
 | global g=>exact iU hx
 | func f=>exact iU hx
theorem Rp.rho {l:Fr}(h:Rp n l a){x:d7}(hx:(bY l x).isSome=true):a.eval x=rho l x:=by
 obtain⟨v,f⟩:=Option.isSome_iff_exists.1 hx
 rw [h.ev f,Go.Proofs.YtkkabncicmhjfaaGreat.rho,f];rfl
theorem Rp.put {l:Fr}(h:Rp n l a)(hd:d<n)(v:aI):Rp n ((d,v)::l) (a.put (some d) v):=by
 refine⟨by simp [m9,h.size],by simp [m9,h.nod],fun i u hi=>?_⟩
 simp only [look] at hi
 have hs:d<a.tmps.size:=by rw [h.size];exact hd
 by_cases e:d=i
 ·subst e
  rw [Nat.beq_refl] at hi
  cases hi
  simp [m9,hs]
 ·have hb:mX d i=false:=by
   cases hh:mX d i with
   | false=>rfl
   | true=>exact absurd (pG hh) e
  rw [hb] at hi
  have:=h.val i u hi
  simp only [m9,o5] at this⊢
  rwa [zW e]
def Keeps (l:Fr):Fr→Prop
 | []=>True
 | (i,v)::r=>look l i=some v∧Keeps l r
theorem Keeps.look {l:Fr}:∀{l':Fr},Keeps l l'→∀i v,look l' i=some v→look l i=some v
 | [],_,i,v,h=>by cases h
 | (j,u)::r,hk,i,v,h=>by
  simp only [Go.Proofs.YtkkabncicmhjfaaGreat.look] at h
  cases hb:mX j i with
  | true=>
   rw [hb] at h
   have e:=pG hb
   subst e
   cases h
   exact hk.1
  | false=>
   rw [hb] at h
   exact hk.2.look i v h
theorem Rp.keep {l l':Fr}(h:Rp n l a)(hk:Keeps l l'):Rp n l' a:=⟨h.size,h.nod,fun i v hi=>h.val i v (hk.look i v hi)⟩
section
variable {P:cC}{Q:dQ→Act→a7→Prop}{n:Nat}{l:Fr}{w:a7}
def cw (P:cC)(Q:dQ→Act→a7→Prop)(n:Nat)(c:Code)(l:Fr)(w:a7):Prop:=∀a,Rp n l a→c.wp P Q a w
def wl (P:cC)(ops:Array aZ)(Q:dQ→Act→a7→Prop)(n:Nat)(rest:List aZ)(l:Fr)(w:a7):Prop:=∀a,Rp n l a→wpList P ops Q rest a w
def eo (Q:dQ→Act→a7→Prop)(e:dQ)(n:Nat)(l:Fr)(w:a7):Prop:=∀a,Rp n l a→Q e a w
theorem bH (l':Fr)(hk:Keeps l l')(h:cw P Q n c l' w):cw P Q n c l w:=fun a f=>h a (f.keep hk)
theorem fU {e:dQ}(l':Fr)(hk:Keeps l l')(h:eo Q e n l' w):eo Q e n l w:=fun a f=>h a (f.keep hk)
theorem aH {x y:Code}(h:cw P (Exit.then (fun a w=>y.wp P Q a w) Q) n x l w):cw P Q n (.seq x y) l w:=fun a f=>wp_seq (h a f)
theorem aJ (h:wl P ol.toArray Q n ol l w):cw P Q n (.region id ol.toArray false) l w:=fun a f=>wp_region_lit (h a f)
theorem aR (h:eo Q .normal n l w):wl P ops Q n [] l w:=fun a f=>wpList_nil (h a f)
theorem aK {y:Code}(h:cw P Q n y l w):eo (Exit.then (fun a w=>y.wp P Q a w) Q) .normal n l w:=h
theorem b8 (h:eo Q .normal n l w):cw P Q n .skip l w:=fun a f=>wp_skip (h a f)
theorem cR (h:eo Q (.exit i) n l w):cw P Q n (.exit i) l w:=fun a f=>wp_exit (h a f)
theorem bD (h:eo Q .ret n l w):cw P Q n .ret l w:=fun a f=>wp_ret (h a f)
theorem bG (h:cw P (pK i Q) n c l w):cw P Q n (.block i c) l w:=fun a f=>wp_block (h a f)
theorem bB {c:d7}{x y:Code}(hc:bY l c=some (By))(h:cw P Q n x l w):cw P Q n (.cond c x y) l w:=fun a f=>wp_cond_true (f.ev hc) (h a f)
theorem aV {c:d7}{x y:Code}(hc:bY l c=some (BY))(h:cw P Q n y l w):cw P Q n (.cond c x y) l w:=fun a f=>wp_cond_false (f.ev hc) (h a f)
theorem cO (h:eo Q .normal n l w):eo (pK i Q) (.exit i) n l w:=fun a f=>by simp only [pK,if_true];exact h a f
theorem FL (hne:j≠i)(h:eo Q (.exit j) n l w):eo (pK i Q) (.exit j) n l w:=fun a f=>by simp only [pK,if_neg hne];exact h a f
theorem iB (h:eo Q .ret n l w):eo (pK i Q) .ret n l w:=h
theorem bM (h:eo Q .normal n l w):eo (pK i Q) .normal n l w:=h
def vP {T:Type}(n:Nat)(F:T→Fr)(W:T→a7)(H:T→Prop)(m:T→Nat)(k:Nat)(Q:dQ→Act→a7→Prop):dQ→Act→a7→Prop
 | .normal,a,w=>∃t,H t∧m t<k∧W t=w∧Rp n (F t) a
 | e,a,w=>Q e a w
theorem bX {F:T→Fr}{W:T→a7}{H:T→Prop}{m:T→Nat}(t:T)(hH:H t)(hm:m t<k)(hW:W t=w)(hk:Keeps l (F t)):eo (vP n F W H m k Q) .normal n l w:=fun _ f=>⟨t,hH,hm,hW,f.keep hk⟩
theorem cQ (F:T→Fr)(W:T→a7)(H:T→Prop)(m:T→Nat)(t0:T)(h0:H t0)(hW:W t0=w)(hk:Keeps l (F t0))(round:∀t,H t→cw P (vP n F W H m (m t) Q) n c (F t) (W t)):cw P Q n (.loop c) l w:=by
 classical
 intro a ha
 let S:Act→a7→Nat→Prop:=fun a w k=>∃t,H t∧m t=k∧W t=w∧Rp n (F t) a
 let I:Act→a7→Prop:=fun a w=>∃k,S a w k
 have hmin:∀a w,I a w→∃k,S a w k∧∀j,S a w j→k≤j:=by
  intro a w ⟨k,hk⟩
  induction k using qV with
  | ind k ih=>
   by_cases hs:∃j,S a w j∧j<k
   ·obtain⟨j,hj,hlt⟩:=hs
    exact ih j hlt hj
   ·exact⟨k,hk,fun j hj=>qX fun hlt=>hs ⟨j,hj,hlt⟩⟩
 let μ:Act→a7→Nat:=fun a w=>if h:I a w then o3 (hmin a w h) else 0
 refine wp_loop I μ ⟨m t0,t0,h0,rfl,hW,ha.keep hk⟩ ?_
 intro a w hI
 have hμ:μ a w=o3 (hmin a w hI):=dif_pos hI
 obtain⟨hS,hle⟩:=pL (hmin a w hI)
 rw [←hμ] at hS hle
 obtain⟨t,hH,hm,rfl,hr⟩:=hS
 refine Code.wp_mono ?_ (round t hH a hr)
 intro e a' w' h
 cases e with
 | normal=>
  obtain⟨t',hH',hm',hW',hr'⟩:=h
  have hI':I a' w':=⟨m t',t',hH',rfl,hW',hr'⟩
  refine⟨hI',?_⟩
  have hμ':μ a' w'=o3 (hmin a' w' hI'):=dif_pos hI'
  have:=(pL (hmin a' w' hI')).2 (m t') ⟨t',hH',rfl,hW',hr'⟩
  omega
 | _=>exact h
theorem cT {K:Act→a7→Prop}(h:eo Q .ret n l w):eo (Exit.then K Q) .ret n l w:=h
theorem cK {K:Act→a7→Prop}(h:eo Q (.exit i) n l w):eo (Exit.then K Q) (.exit i) n l w:=h
theorem nQ {F:T→Fr}{W:T→a7}{H:T→Prop}{m:T→Nat}(h:eo Q .ret n l w):eo (vP n F W H m k Q) .ret n l w:=h
theorem cN {F:T→Fr}{W:T→a7}{H:T→Prop}{m:T→Nat}(h:eo Q (.exit i) n l w):eo (vP n F W H m k Q) (.exit i) n l w:=h
theorem cP (l':Fr)(w':a7)(hw:w=w')(hk:Keeps l l')(h:cw P Q n c l' w'):cw P Q n c l w:=by subst hw;exact bH l' hk h
def vG:List aI→Nat→Fr
 | [],_=> []
 | v::r,i=>(i,v)::vG r (i+1)
theorem DX:∀(args:List aI) (k i:Nat) (v:aI),look (vG args k) i=some v→k≤i∧args[i-k]?=some v
 | [],k,i,v,h=>by cases h
 | u::r,k,i,v,h=>by
  simp only [vG,look] at h
  cases hb:mX k i with
  | true=>
   rw [hb] at h
   have e:=pG hb
   subst e
   cases h
   simp
  | false=>
   rw [hb] at h
   obtain⟨_,f⟩:=DX r (k+1) i v h
   refine⟨by omega,?_⟩
   have:i-k=(i-(k+1))+1:=by omega
   rw [this];simpa using f
theorem bP {R:dM→a7→Prop}(hf:P.funcs[f]?=some fn)(hb:fn.body=some c)(hn:fn.ntmps=n)(hle:args.length≤n)(h:cw P (bodyPost P fn R) n c (vG args 0) w):aQ P f args.toArray w R:=by
 refine calls_of_wp hf hb (h _ ⟨?_,rfl,fun i v hi=>?_⟩)
 ·simp [hn];omega
 ·obtain⟨_,p⟩:=DX args 0 i v hi
  rw [Nat.sub_zero] at p
  have o:i<args.length:=(fD.1 p).1
  simp only [o5]
  rw [Array.getElem?_append_left (by simpa using o)]
  simp [p]
def pW (P:cC)(w:a7)(l:Fr):List qT→List aI→Prop
 | [],[]=>True
 | .tmp t::r,v::vs=>look l t=some v∧pW P w l r vs
 | .cell s t::r,v::vs=>(∃a,look l s=some (.pointer (some a))∧(loadVar t a).run P w= .ok v w)∧pW P w l r vs
 | _,_=>False
def oD (tmps:Array aI):qT→Sem aI
 | .tmp t=>pure (tmps.getD t undef)
 | .cell s t=>do loadVar t (←asAddr (tmps.getD s undef))
theorem xA {a:Act}(ha:Rp n l a):∀(rl:List qT) (vs:List aI),pW P w l rl vs→(rl.mapM (oD a.tmps)).run P w= .ok vs w
 | [],[],_=>rfl
 | [],_::_,h=>by cases h
 | .tmp _::_,[],h=>by cases h
 | .cell _ _::_,[],h=>by cases h
 | .tmp t::rl,v::vs,h=>by
  obtain⟨h1,h2⟩:=h
  have f:(oD a.tmps (.tmp t)).run P w= .ok v w:=by
   show (Sem.pure (a.tmps.getD t undef)).run P w=_
   rw [ha.val t v h1];rfl
  rw [List.mapM_cons]
  simp only [dA,f,eW,xA ha rl vs h2,gT]
 | .cell s t::rl,v::vs,h=>by
  obtain⟨⟨p,h1,o⟩,h2⟩:=h
  have f:(oD a.tmps (.cell s t)).run P w= .ok v w:=by
   have e:(do loadVar t (←asAddr (a.tmps.getD s undef)):Sem aI).run P w= .ok v w:=by
    rw [ha.val s _ h1];simpa [asAddr] using o
   exact e
  rw [List.mapM_cons]
  simp only [dA,f,eW,xA ha rl vs h2,gT]
def xF:List aI→aI
 | [v]=>v
 | vs=> .tuple vs.toArray
theorem C4 (hr:fn.results=rl.toArray)(ha:Rp n l a)(h:pW P w l rl vs):(results fn a.tmps).run P w= .ok (xF vs) w:=by
 have f:=xA ha rl vs h
 have e:results fn a.tmps=(do let vs←fn.results.mapM (oD a.tmps);pure (if h:vs.size=1 then vs[0] else .tuple vs)):=rfl
 have o:(fn.results.mapM (oD a.tmps)).run P w= .ok vs.toArray w:=by
  rw [hr,List.mapM_toArray]
  have p:(List.toArray<$>rl.mapM (oD a.tmps):Sem (Array aI))=(rl.mapM (oD a.tmps)>>=fun x=>pure x.toArray):=by rw [bind_pure_comp]
  rw [p]
  simp only [dA,f,eW,gT]
 rw [e]
 simp only [dA,o,eW,gT]
 match vs with
 | []=>rfl
 | [v]=>rfl
 | u::v::r=>rfl
theorem bC {R:dM→a7→Prop}(vs:List aI)(hr:fn.results=rl.toArray)(h:pW P w l rl vs)(hR:R (.returned (xF vs)) w):eo (bodyPost P fn R) .ret n l w:=
 fun _ f=>iT (C4 hr f h) f.nod hR
theorem qG {R:dM→a7→Prop}(vs:List aI)(hr:fn.results=rl.toArray)(h:pW P w l rl vs)(hR:R (.returned (xF vs)) w):eo (bodyPost P fn R) .normal n l w:=
 fun _ f=>bodyPost_end (C4 hr f h) f.nod hR
section ops
variable {ops:Array aZ}{rest:List aZ}{d:Nat}{op:Op}{ty:aU}{pos:String}{af:Array Edge}
def dG (ops:Array aZ)(l:Fr):Option (Nat×Bool)→Option Bool
 | none=>some true
 | some (g,b)=>
  match (ops[g]?).bind (·.dst) with
  | some c=>
   match look l c with
   | some (.bool x)=>some (x==b)
   | some (.tuple _)=>some false
   | _=>none
  | none=>none
theorem wT {r:Bool}(h:dG ops l gd=some r)(ha:Rp n l a):qU ⟨dst,op,ty,pos,af,gd⟩ (yielded ops a.tmps)=r:=by
 cases gd with
 | none=>exact iU h
 | some p=>
  obtain⟨g,b⟩:=p
  simp only [dG] at h
  simp only [qU]
  cases hc:(ops[g]?).bind (·.dst) with
  | none=>rw [hc] at h;cases h
  | some c=>
   rw [hc] at h
   simp only at h
   have o:yielded ops a.tmps g=match a.tmps[c]? with | some (.bool b)=>some b | _=>none:=by
    unfold yielded;rw [hc];rfl
   cases hl:look l c with
   | none=>rw [hl] at h;cases h
   | some u=>
    rw [hl] at h
    have f:=ha.val c u hl
    rw [o5] at f
    cases u with
    | bool x=>
     simp only [eF] at h
     cases hx:a.tmps[c]? with
     | none=>rw [hx] at f;cases f
     | some v=>
      rw [hx] at f
      simp only [lV] at f
      subst f
      rw [o,hx,←h]
      cases x <;> cases b <;> rfl
    | tuple vs=>
     simp only [eF] at h
     cases hx:a.tmps[c]? with
     | none=>rw [o,hx,←h];rfl
     | some v=>
      rw [hx] at f
      simp only [lV] at f
      subst f
      rw [o,hx,←h];rfl
    | _=>cases h
variable {gd:Option (Nat×Bool)}
theorem wP (hw:dG ops l gd=some true)(ha:Rp n l a)(h:∀K:Act→a7→Prop,(∀a w,wpList P ops Q rest a w→K a w)→lC P ⟨dst,op,ty,pos,af,gd⟩ a w K Q):wpList P ops Q (⟨dst,op,ty,pos,af,gd⟩::rest) a w:=
 wpList_step fun K f=>by rw [wT hw ha];exact h K f
theorem J8 (hw:dG ops l gd=some false)(hn:d<n)(h:wl P ops Q n rest ((d,undef)::l) w):wl P ops Q n (⟨some d,op,ty,pos,af,gd⟩::rest) l w:=fun a f=>
 wpList_step fun K o=>by
  rw [wT hw f]
  exact o _ _ (h _ (f.put hn undef))
theorem gU (hw:dG ops l gd=some true)(hn:d<n)(hr:∀a,Rp n l a→(execOp a.eval ⟨some d,op,ty,pos,af,gd⟩).run P w= .ok (.value v) w')(h:wl P ops Q n rest ((d,v)::l) w'):wl P ops Q n (⟨some d,op,ty,pos,af,gd⟩::rest) l w:=fun a f=>by
 refine wP hw f fun K o=>?_
 unfold lC
 rw [hr a f]
 exact o _ _ (h _ (f.put hn v))
theorem J4 (hw:dG ops l gd=some true)(hr:∀a,Rp n l a→(execOp a.eval ⟨none,op,ty,pos,af,gd⟩).run P w= .ok .skip w')(h:wl P ops Q n rest l w'):wl P ops Q n (⟨none,op,ty,pos,af,gd⟩::rest) l w:=fun a f=>by
 refine wP hw f fun K o=>?_
 unfold lC
 rw [hr a f]
 exact o _ _ (h _ f)
def u6:Op→Bool
 | .select .. =>false
 | _=>true
def jZ (l:Fr)(op:Op):Bool:=u6 op&&op.operands.toList.all fun x=>(bY l x).isSome
theorem oS {g:Option (Nat×Bool)}(hk:jZ l op=true)(ha:Rp n l a):execOp a.eval ⟨dst,op,ty,pos,af,g⟩=execOp (rho l) ⟨dst,op,ty,pos,af,g⟩:=by
 simp only [jZ,eH,eY] at hk
 refine execOp_congr _ (fun cs b e=>?_) (fun x hx=>ha.rho (hk.2 x (by simpa using hx)))
 simp only at e
 rw [e] at hk
 exact absurd hk.1 (by simp [u6])
theorem AS (hw:dG ops l gd=some true)(hk:jZ l op=true)(hn:d<n)(hr:(execOp (rho l) ⟨some d,op,ty,pos,af,gd⟩).run P w= .ok (.value v) w)(h:wl P ops Q n rest ((d,v)::l) w):wl P ops Q n (⟨some d,op,ty,pos,af,gd⟩::rest) l w:=
 gU hw hn (fun a f=>by rw [oS hk f];exact hr) h
theorem J9 {x:d7}(hw:dG ops l gd=some true)(hx:bY l x=some v)(hn:d<n)(h:wl P ops Q n rest ((d,v)::l) w):wl P ops Q n (⟨some d,.move x,ty,pos,af,gd⟩::rest) l w:=
 gU hw hn (fun a f=>by simp only [execOp,f.ev hx];rfl) h
theorem JF {x:d7}(hw:dG ops l gd=some true)(hx:bY l x=some v)(hn:d<n)(h:wl P ops Q n rest ((d,v)::l) w):wl P ops Q n (⟨some d,.assign x,ty,pos,af,gd⟩::rest) l w:=
 gU hw hn (fun a f=>by simp only [execOp,f.ev hx];rfl) h
theorem aP {x:d7}{t:aU}(hw:dG ops l gd=some true)(hx:bY l x=some (.pointer (some p)))(hl:(loadVar t p).run P w= .ok v w)(h:wl P ops Q n rest ((d,v)::l) w)(hn:d<n:=by decide):wl P ops Q n (⟨some d,.load t x,ty,pos,af,gd⟩::rest) l w:=
 gU hw hn (fun a f=>by
  have e:(wH t (a.eval x)).run P w= .ok v w:=by rw [f.ev hx];exact hl
  show ((wH t (a.eval x)>>=fun r=>pure (jA r):Sem Next)).run P w=_
  rw [dA,e];rfl) h
theorem rI {x y:d7}{t:aU}(hw:dG ops l gd=some true)(hx:bY l x=some (.pointer (some p)))(hy:bY l y=some v)(hs:(storeVar t p v).run P w= .ok () w')(h:wl P ops Q n rest l w'):wl P ops Q n (⟨none,.store t x y,ty,pos,af,gd⟩::rest) l w:=
 J4 hw (fun a f=>by
  have e:(wG t (a.eval x) (a.eval y)).run P w= .ok () w':=by rw [f.ev hx,f.ev hy];exact hs
  show ((wG t (a.eval x) (a.eval y)>>=fun _=>pure Next.skip:Sem Next)).run P w=_
  rw [dA,e];rfl) h
def cH:jB→Int→Int→Option Bool
 | .eql,a,b=>some (a==b)
 | .neq,a,b=>some (a != b)
 | .lss,a,b=>some (decide (a<b))
 | .leq,a,b=>some (decide (a≤b))
 | .gtr,a,b=>some (decide (a>b))
 | .geq,a,b=>some (decide (a≥b))
 | _,_,_=>none
theorem C8 {o:jB}{t:aU}{k:jP}{a b:Int}{c:Bool}(hc:cH o a b=some c){x y:d7}:((do eqGuard o t x y (.int k a) (.int k b);binOp o t (.int k a) (.int k b)):Sem aI).run P w= .ok (.bool c) w:=by
 cases o <;> simp only [cH,eF,reduceCtorEq] at hc <;> subst hc <;> simp [eqGuard,binOp,Op.intCmp]
theorem aN (hw:dG ops l gd=some true){o:jB}{t:aU}{x y:d7}{k:jP}{a b:Int}(hx:bY l x=some (.int k a))(hy:bY l y=some (.int k b))(c:Bool)(hc:cH o a b=some c)(h:wl P ops Q n rest ((d,.bool c)::l) w)(hn:d<n:=by decide):wl P ops Q n (⟨some d,.binOp o t x y t',ty,pos,af,gd⟩::rest) l w:=
 gU hw hn (fun a' f=>by
  have e:((do eqGuard o t x y (a'.eval x) (a'.eval y);binOp o t (a'.eval x) (a'.eval y)):Sem aI).run P w= .ok (.bool c) w:=by
   rw [f.ev hx,f.ev hy];exact C8 hc
  show ((((do eqGuard o t x y (a'.eval x) (a'.eval y);binOp o t (a'.eval x) (a'.eval y)):Sem aI)>>=fun r=>pure (jA r)):Sem Next).run P w=_
  rw [dA,e];rfl) h
def eT:jB→jP→Int→Int→Option Int
 | .add,k,a,b=>some (k.wrap (a+b))
 | .sub,k,a,b=>some (k.wrap (a-b))
 | .mul,k,a,b=>some (k.wrap (a*b))
 | .quo,k,a,b=>if b=0 then none else some (k.wrap (a.tdiv b))
 | .rem,_,a,b=>if b=0 then none else some (a.tmod b)
 | _,_,_,_=>none
theorem C9 {o:jB}{t:aU}{k:jP}{a b c:Int}(hc:eT o k a b=some c){x y:d7}:((do eqGuard o t x y (.int k a) (.int k b);binOp o t (.int k a) (.int k b)):Sem aI).run P w= .ok (.int k c) w:=by
 cases o <;> simp only [eT,eF,reduceCtorEq] at hc
 case add=>subst hc;simp [eqGuard,binOp,zN]
 case sub=>subst hc;simp [eqGuard,binOp,zN]
 case mul=>subst hc;simp [eqGuard,binOp,zN]
 case quo=>
  by_cases hb:b=0
  ·rw [if_pos hb] at hc;cases hc
  ·rw [if_neg hb] at hc;cases hc;simp [eqGuard,binOp,Op.intDiv,hb]
 case rem=>
  by_cases hb:b=0
  ·rw [if_pos hb] at hc;cases hc
  ·rw [if_neg hb] at hc;cases hc;simp [eqGuard,binOp,Op.intDiv,hb]
theorem aT (hw:dG ops l gd=some true){o:jB}{t:aU}{x y:d7}{k:jP}{a b:Int}(hx:bY l x=some (.int k a))(hy:bY l y=some (.int k b))(c:Int)(hc:eT o k a b=some c)(h:wl P ops Q n rest ((d,.int k c)::l) w)(hn:d<n:=by decide):wl P ops Q n (⟨some d,.binOp o t x y t',ty,pos,af,gd⟩::rest) l w:=
 gU hw hn (fun a' f=>by
  have e:((do eqGuard o t x y (a'.eval x) (a'.eval y);binOp o t (a'.eval x) (a'.eval y)):Sem aI).run P w= .ok (.int k c) w:=by
   rw [f.ev hx,f.ev hy];exact C9 hc
  show ((((do eqGuard o t x y (a'.eval x) (a'.eval y);binOp o t (a'.eval x) (a'.eval y)):Sem aI)>>=fun r=>pure (jA r)):Sem Next).run P w=_
  rw [dA,e];rfl) h
structure NewBk (w w':a7)(g:Nat)(t:aU)(vs:List aI):Prop where
 at_:w.heap.size=g
 size:w'.heap.size=g+1
 bk:Bk w' g t vs
 ext:Ext w w'
theorem NewBk.mk' (w:a7)(t:aU)(vs:List aI):NewBk w (w.alloc (.cells vs.toArray t)) w.heap.size t vs:=⟨rfl,by simp,Bk.new w t vs,(Ext.refl w).alloc _⟩
theorem C5 {t:aU}(hv:v.cells=vs.toArray):(newVar t v).run P w= .ok ⟨w.heap.size,0,none⟩ (w.alloc (.cells vs.toArray t)):=by
 unfold newVar newRow newObj
 rw [hv]
 rfl
theorem mB {x:d7}{t:aU}(hw:dG ops l gd=some true)(hx:bY l x=some v)(hv:v.cells=vs.toArray)(h:∀g w',NewBk w w' g t vs→wl P ops Q n rest ((d,no g 0)::l) w')(hn:d<n:=by decide):wl P ops Q n (⟨some d,.box t x,ty,pos,af,gd⟩::rest) l w:=
 gU hw hn (fun a f=>by
  have e:(Instr.box t (a.eval x)).run P w= .ok (no w.heap.size 0) (w.alloc (.cells vs.toArray t)):=by
   rw [f.ev hx]
   show ((newVar t v>>=fun r=>pure (zM (some r)):Sem aI)).run P w=_
   rw [dA,C5 hv];rfl
  show ((Instr.box t (a.eval x)>>=fun r=>pure (jA r):Sem Next)).run P w=_
  rw [dA,e];rfl) (h _ _ (NewBk.mk' w t vs))
theorem dW {t:aU}(hw:dG ops l gd=some true)(hz:∀w,(zeroValue t).run P w= .ok z w)(hv:z.cells=vs.toArray)(h:∀g w',NewBk w w' g t vs→wl P ops Q n rest ((d,no g 0)::l) w')(hn:d<n:=by decide):wl P ops Q n (⟨some d,.alloc t,ty,pos,af,gd⟩::rest) l w:=
 gU hw hn (fun a _=>by
  have e:(Instr.alloc t true (.tuple #[])).run P w= .ok (no w.heap.size 0) (w.alloc (.cells vs.toArray t)):=by
   show ((zeroValue t>>=fun z=>(newVar t z>>=fun r=>pure (zM (some r))):Sem aI)).run P w=_
   rw [dA,hz w]
   show ((newVar t z>>=fun r=>pure (zM (some r)):Sem aI)).run P w=_
   rw [dA,C5 hv];rfl
  show ((Instr.alloc t true (.tuple #[])>>=fun r=>pure (jA r):Sem Next)).run P w=_
  rw [dA,e];rfl) (h _ _ (NewBk.mk' w t vs))
def HU (p:aI→Prop):dM→Prop
 | .returned v=>p v
 | _=>False
theorem eM {p:aI→Prop}(h:p v):HU p (.returned v):=h
theorem eL {xs:Array d7}{R:dM→a7→Prop}(hw:dG ops l gd=some true)(hk:jZ l (.call {callee:= .value (.func f),args:=xs,argTypes:=ts})=true)(hr:(execOp (rho l) ⟨some d,.call {callee:= .value (.func f),args:=xs,argTypes:=ts},ty,pos,af,gd⟩).run P w= .ok (.enter f vs.toArray) w)(hn:d<n)(hc:aQ P f vs.toArray w R)(h:∀e w',R e w'→HU (fun v=>wl P ops Q n rest ((d,v)::l) w') e):wl P ops Q n (⟨some d,.call {callee:= .value (.func f),args:=xs,argTypes:=ts},ty,pos,af,gd⟩::rest) l w:=fun a o=>by
 refine wP hw o fun K p=>?_
 unfold lC
 rw [oS hk o,hr]
 refine hc.mono fun e w' q=>?_
 have:=h e w' q
 cases e with
 | returned v=>exact p _ _ (this _ (o.put hn v))
 | panicked c=>exact this.elim
 | outgrown=>exact this.elim
end ops
end
def NP (Q:dQ→Act→a7→Prop):dQ→Act→a7→Prop
 | .panic _,_,_=>False
 | e,a,w=>Q e a w
theorem NP.imp {Q:dQ→Act→a7→Prop}:∀e a w,NP Q e a w→Q e a w:=fun e a w h=>by
 cases e <;> first | exact h | exact h.elim
theorem cF {Q:dQ→Act→a7→Prop}{l:Fr}(h:eo Q .normal n l w):eo (NP Q) .normal n l w:=h
def iC (Rs:List (aI→a7→Prop))(i:Nat):aI→a7→Prop:=(Rs[i]?).getD fun _ _=>True
def gV (a:Act):Option Tmp→aI
 | some d=>a.tmps.getD d undef
 | none=>undef
def xJ (d:Option Tmp)(v:aI)(l:Fr):Fr:=
 match d with
 | some d=>(d,v)::l
 | none=>l
def dF (ol:List aZ)(j:Nat):Option Tmp:=(ol[j]?).bind (·.dst)
def uN (o:aZ)(j:Nat):Bool:=o.after.toList.any fun e=>iN .any e&&e.on==j
theorem OD (h:uN o j=true):∃e∈o.after,iN .any e=true∧e.on=j:=by
 simp only [uN,wE,eH,beq_iff_eq] at h
 obtain⟨e,he,f,p⟩:=h
 exact⟨e,by simpa using he,f,p⟩
def Deps (ol:List aZ)(Rs:List (aI→a7→Prop))(w0 w1:a7)(k:Fr→Prop):List Nat→Fr→Prop
 | [],acc=>k acc
 | j::ds,acc=>∀v wj,iC Rs j v wj→Ext w0 wj→Ext wj w1→Deps ol Rs w0 w1 k ds (xJ (dF ol j) v acc)
theorem aB {Rs:List (aI→a7→Prop)}{k:Fr→Prop}{acc:Fr}(h:k acc):Deps ol Rs w0 w1 k [] acc:=h
theorem aO {Rs:List (aI→a7→Prop)}{k:Fr→Prop}{acc:Fr}{R:aI→a7→Prop}(hR:Rs[j]?=some R)(hd:dF ol j=some d)(h:∀v wj,R v wj→Ext w0 wj→Ext wj w1→Deps ol Rs w0 w1 k ds ((d,v)::acc)):Deps ol Rs w0 w1 k (j::ds) acc:=by
 intro v wj hr e e'
 have o:iC Rs j=R:=by unfold iC;rw [hR];rfl
 have f:xJ (dF ol j) v acc=(d,v)::acc:=by rw [hd];rfl
 rw [o] at hr
 rw [f]
 exact h v wj hr e e'
def l9 (w1:a7)(d:Option Tmp)(R:aI→a7→Prop):dQ→Act→a7→Prop
 | .normal,a,w=>Ext w1 w∧R (gV a d) w∧a.defers= []
 | _,_,_=>False
theorem aE {l:Fr}{R:aI→a7→Prop}(hv:look l d=some v)(hx:Ext w1 w)(hR:R v w):wl P ops (l9 w1 (some d) R) n [] l w:=
 aR fun a f=>⟨hx,by show R (a.tmps.getD d undef) w;rw [f.val d v hv];exact hR,f.nod⟩
def dH (v:aI)(g:Nat):Prop:=v= no g 0∨∃s p n c,v= .agg #[.bool s,AT (some p) n c]∧p.block=g
def nX (w:a7)(v:aI):Prop:=∀g,dH v g→w.heap.size≤g
def vO (w:a7)(v:aI):Prop:=∀g,dH v g→g<w.heap.size
def NewVr (w:a7)(v:aI):Prop:=∃g,v= no g 0∧w.heap.size≤g
theorem EJ (h:dH (no g 0) k):k=g:=by
 rcases h with h | ⟨_,_,_,_,h,_⟩
 ·cases h;rfl
 ·cases h
def sS (Rs:List (aI→a7→Prop)):List Nat→Prop
 | []=>True
 | i::r=>(∀v w,iC Rs i v w→vO w v)∧sS Rs r
theorem D2 {Rs:List (aI→a7→Prop)}:∀{al:List Nat},sS Rs al→∀i∈al,∀v w,iC Rs i v w→vO w v
 | [],_,i,h=>by cases h
 | j::r,h,i,hi=>by
  rcases o1.1 hi with e | e
  ·subst e;exact h.1
  ·exact D2 h.2 i e
def sX (ol:List aZ)(al:List Nat)(acc:Fr):Prop:=∀i∈al,∀j∈al,i≠j→∀di dj,dF ol i=some di→dF ol j=some dj→∀u v,look acc di=some u→look acc dj=some v→∀g,dH u g→dH v g→False
def sJ (k:Nat):aI→aI
 | .tuple vs=>(vs[k]?).getD undef
 | _=>undef
def sU (ol:List aZ)(m:Nat)(fl:List Nat)(dss:List (List Nat))(lk:List (Nat×Nat×Nat)):Prop:=
 ∀e∈lk,e.1<m∧e.1∈fl∧e.2.1<m∧e.2.1∈(dss[e.1]?).getD []∧∃o t,ol[e.1]?=some o∧o.op= .extract (.tmp t) e.2.2∧dF ol e.2.1=some t
def zJ (ol:List aZ)(lk:List (Nat×Nat×Nat))(acc:Fr):Prop:=∀e∈lk,∀di dj,dF ol e.1=some di→dF ol e.2.1=some dj→∀u v,look acc di=some u→look acc dj=some v→u=sJ e.2.2 v
theorem R5 {t:Tmp}(ho:o.op= .extract (.tmp t) k)(h:(execOp a.eval o).run P w= .ok (.value v) w):v=sJ k (a.tmps.getD t undef):=by
 have e:a.eval (.tmp t)=a.tmps.getD t undef:=rfl
 unfold execOp at h
 rw [ho] at h
 simp only [e] at h
 generalize a.tmps.getD t undef=x at h
 cases x with
 | tuple vs=>
  simp only [Instr.extract] at h
  cases hv:vs[k]? with
  | none=>rw [hv] at h;cases h
  | some u=>
   rw [hv] at h
   simp only [sJ,hv,lV]
   cases h
   rfl
 | _=>cases h
section
variable (P:cC) (n:Nat) (ol:List aZ) (m:Nat) (fl al:List Nat) (Rs:List (aI→a7→Prop)) (l:Fr) (w0:a7)
def qN (i:Nat)(o:aZ)(ds:List Nat):Prop:=
 ∀w1,Ext w0 w1→Deps ol Rs w0 w1 (fun acc=>wl P ol.toArray (l9 w1 o.dst (fun v w=>iC Rs i v w∧(al.contains i=true→nX w1 v))) n [o] acc w1) ds l
def vQ (i:Nat)(o:aZ)(ds:List Nat):Prop:=
 ∀w1,Ext w0 w1→Deps ol Rs w0 w1 (fun acc=>∃v,jZ acc o.op=true∧dG ol.toArray acc o.guard=some true∧(∀w,(execOp (rho acc) o).run P w= .ok (.value v) w)∧iC Rs i v w1) ds l
def lA:List (List Nat)→Nat→Prop
 | [],_=>True
 | ds::dss,i=>(match ol[i]? with | some o=>if fl.contains i then vQ P ol Rs l w0 i o ds else qN P n ol al Rs l w0 i o ds | none=>True)∧lA dss (i+1)
end
def cD (rl:List (List Nat))(i:Nat):List Nat:=(rl[i]?).getD []
def sI (n : Nat)(ol : List aZ)(m : Nat)(fl : List Nat)(l : Fr)(dss rl : List (List Nat)): Bool :=
  decide (m ≤ ol.length) && dss.length == m && fl.all (fun i => decide (i < m)) &&
  (ol.zipIdx.all fun (o, i) => u6 o.op && (o.after.toList.all fun e => !Region.binds .any e || decide (e.on < i)) && ((cD rl i).all fun j => o.after.toList.any fun e => iN .any e && (e.on == j || (cD rl e.on).contains j)) &&
    (if i < m then
      (match o.dst with
       | some d => decide (d < n) && l.all (fun p => p.1 != d) && ol.zipIdx.all (fun (o', j) => j == i || decide (m ≤ j) || o'.dst != some d)
       | none => false) &&
      ((dss[i]?).getD []).all (fun j => (cD rl i).contains j) &&
      (!fl.contains i || ol.zipIdx.all (fun (o', j) => j == i || (cD rl i).contains j || uN o' i || o.apart ol.toArray o'))
     else (dB i).all (fun j => fl.contains j || (cD rl i).contains j)))
structure DrawOk (n:Nat)(ol:List aZ)(m:Nat)(fl:List Nat)(l:Fr)(dss rl:List (List Nat)):Prop where
 mle:m≤ol.length
 dlen:dss.length=m
 flt:∀i∈fl,i<m
 sel:∀(i:Nat) (o:aZ),ol[i]?=some o→u6 o.op=true
 back:∀(i:Nat) (o:aZ),ol[i]?=some o→∀e∈o.after,iN .any e=true→e.on<i
 dst:∀(i:Nat) (o:aZ),ol[i]?=some o→i<m→∃d,o.dst=some d∧d<n∧(∀p∈l,p.1≠d)∧∀(j:Nat) (o':aZ),ol[j]?=some o'→j≠i→j<m→o'.dst≠some d
 reach:∀(i:Nat) (o:aZ),ol[i]?=some o→∀j∈cD rl i,∃e∈o.after,iN .any e=true∧(e.on=j∨j∈cD rl e.on)
 deps:∀(i:Nat) (o:aZ),ol[i]?=some o→i<m→∀j∈(dss[i]?).getD [],j∈cD rl i
 free:∀(i:Nat) (o:aZ),ol[i]?=some o→i∈fl→∀(j:Nat) (o':aZ),ol[j]?=some o'→j≠i→j ∉ cD rl i→uN o' i=true∨o.apart ol.toArray o'=true
 tail:∀(i:Nat) (o:aZ),ol[i]?=some o→m≤i→∀j,j<i→j∈fl∨j∈cD rl i
theorem oV {α:Type}{l:List α}{p:α×Nat→Bool}(h:l.zipIdx.all p=true)(i:Nat)(x:α)(hx:l[i]?=some x):p (x,i)=true:=by
 rw [eY] at h
 exact h (x,i) (by rw [List.mem_zipIdx_iff_getElem?];simpa using hx)
theorem RC {l:Fr}{rl:List (List Nat)}(h:sI n ol m fl l dss rl=true):DrawOk n ol m fl l dss rl:=by
 simp only [sI,eH,decide_eq_true_eq,beq_iff_eq] at h
 obtain⟨⟨⟨W,M⟩,F⟩,U⟩:=h
 have key:=fun (i:Nat) (o:aZ) (f:ol[i]?=some o)=>oV U i o f
 simp only [eH] at key
 refine⟨W,M,fun i hi=>by rw [eY] at F;simpa using F i hi,fun i o f=>(key i o f).1.1.1,fun i o f e he hb=>?_,fun i o f hi=>?_,fun i o f j hj=>?_,fun i o f hi j hj=>?_,fun i o f hi j o' ho' D H=>?_,fun i o f hi j hj=>?_⟩
 ·have:=(key i o f).1.1.2
  rw [eY] at this
  have:=this e (by simpa using he)
  simpa [hb] using this
 ·have:=(key i o f).2
  rw [if_pos hi] at this
  simp only [eH] at this
  obtain⟨⟨q,_⟩,_⟩:=this
  cases hd:o.dst with
  | none=>rw [hd] at q;cases q
  | some d=>
   rw [hd] at q
   simp only [eH,decide_eq_true_eq] at q
   obtain⟨⟨E,L⟩,V⟩:=q
   refine⟨d,rfl,E,fun p X=>?_,fun j o' ho' D _ e=>?_⟩
   ·rw [eY] at L
    simpa using L p X
   ·have:=oV V j o' ho'
    simp only [m8,beq_iff_eq,decide_eq_true_eq,bne_iff_ne] at this
    rcases this with (h | h) | h
    ·exact D h
    ·omega
    ·exact h e
 ·have q:=(key i o f).1.2
  rw [eY] at q
  have:=q j hj
  rw [wE] at this
  obtain⟨e,he,E⟩:=this
  simp only [eH,m8,beq_iff_eq,lI] at E
  exact⟨e,by simpa using he,E.1,E.2⟩
 ·have:=(key i o f).2
  rw [if_pos hi] at this
  simp only [eH] at this
  have q:=this.1.2
  rw [eY] at q
  simpa using q j hj
 ·have I:i<m:=by rw [eY] at F;simpa using F i hi
  have:=(key i o f).2
  rw [if_pos I] at this
  simp only [eH,m8,Bool.not_eq_true'] at this
  rcases this.2 with q | q
  ·simp [hi] at q
  ·have:=oV q j o' ho'
   simp only [m8,beq_iff_eq,lI] at this
   rcases this with ((h | h) | h) | h
   ·exact absurd h D
   ·exact absurd h H
   ·exact bS h
   ·exact bW h
 ·have:=(key i o f).2
  rw [if_neg (by omega),eY] at this
  have:=this j (by simpa using hj)
  simpa using this
section
variable {P:cC}{Q:dQ→Act→a7→Prop}{n:Nat}{ol:List aZ}{m:Nat}{fl al:List Nat}{Rs:List (aI→a7→Prop)}{l:Fr}{w0:a7}{dss rl:List (List Nat)}
def sW (ol:List aZ)(Rs:List (aI→a7→Prop))(w0:a7)(i:Nat)(a:Act)(w:a7):Prop:=∃w1,Ext w0 w1∧Ext w1 w∧iC Rs i (gV a (dF ol i)) w1
theorem Deps.weak {w1:a7}{k k':Fr→Prop}(hi:∀acc,k acc→k' acc):∀(ds:List Nat) (acc:Fr),Deps ol Rs w0 w1 k ds acc→Deps ol Rs w0 w1 k' ds acc
 | [],acc,h=>hi acc h
 | _::ds,_,h=>fun v wj h1 h2 h3=>Deps.weak hi ds _ (h v wj h1 h2 h3)
theorem Rp.cons {acc:Fr}(h:Rp n acc a)(hv:a.tmps.getD d undef=v):Rp n ((d,v)::acc) a:=
 ⟨h.size,h.nod,fun i u hi=>by
  simp only [look] at hi
  cases hb:mX d i with
  | true=>
   rw [hb] at hi
   have e:=pG hb
   subst e
   cases hi
   exact hv
  | false=>rw [hb] at hi;exact h.val i u hi⟩
theorem Deps.apply {w1:a7}{k:Fr→Prop}{a:Act}:∀(ds:List Nat) (acc:Fr),(∀j∈ds,sW ol Rs w0 j a w1)→Deps ol Rs w0 w1 k ds acc→Rp n acc a→∃acc',Rp n acc' a∧k acc'
 | [],acc,_,h,hr=>⟨acc,hr,h⟩
 | j::ds,acc,hf,h,hr=>by
  obtain⟨wj,e1,e2,hR⟩:=hf j (by simp)
  refine Deps.apply ds _ (fun i hi=>hf i (by simp [hi])) (h _ wj hR e1 e2) ?_
  cases hd:dF ol j with
  | none=>exact hr
  | some d=>exact hr.cons rfl
theorem xN:∀{dss:List (List Nat)}{k:Nat},lA P n ol fl al Rs l w0 dss k→∀(i:Nat) (o:aZ),ol[k+i]?=some o→i<dss.length→
  (if fl.contains (k+i) then vQ P ol Rs l w0 (k+i) o ((dss[i]?).getD []) else qN P n ol al Rs l w0 (k+i) o ((dss[i]?).getD []))
 | [],_,_,i,_,_,hi=>by simp at hi
 | ds::dss,k,h,0,o,ho,_=>by
  have:=h.1
  rw [show ol[k]?=some o from ho] at this
  simpa using this
 | ds::dss,k,h,i+1,o,ho,hi=>by
  have e:k+(i+1)=k+1+i:=by omega
  have:=xN h.2 i o (by rw [←e];exact ho) (by simpa using hi)
  rw [e]
  simpa using this
theorem wO {K K2:Act→a7→Prop}{Q1 Q2:dQ→Act→a7→Prop}(h:o.wp P a w K Q1)(hp:∀c a w,¬Q1 (.panic c) a w)(hl:¬LetsOut Q1)(hd:∀a w,K a w→a.defers= [])(hk:∀v w',K (a.put o.dst v) w'→K2 (a.put o.dst v) w'):o.wp P a w K2 Q2:=by
 unfold lC at*
 generalize (execOp a.eval o).run P w=r at*
 cases r with
 | ok x w'=>
  cases x <;> simp only [lW] at h⊢ <;> first | exact h.elim | skip
  case value v=>exact hk _ _ h
  case skip=>exact hk _ _ h
  case defer d=>
   have:=hd _ _ h
   exfalso
   revert this
   cases o.dst <;> simp [m9]
  case enter f args=>
   refine h.mono fun e w'' he=>?_
   cases e with
   | returned v=>exact hk _ _ he
   | panicked c=>exact (hp _ _ _ he).elim
   | outgrown=>exact (hl he).elim
  case row row args=>exact h.mono fun v w'' he=>hk _ _ he
 | _ x w'=>
  cases x <;> simp only [lW] at h⊢ <;> first | exact h.elim | exact (hp _ _ _ h).elim
theorem mT (ol:List aZ)(i:Nat):ol.toArray[i]?=ol[i]?:=by simp
theorem jD:j∈pC .any ol.toArray listed↔
  listed.getD j true=false∧∃o,ol[j]?=some o∧∀e∈o.after,iN .any e=true→listed.getD e.on false=true:=by
 rw [mem_ready,mT]
theorem jH (h:j<listed.size:=by omega):listed.getD j true=listed.getD j false:=by simp [h]
theorem MK (h:DrawOk n ol m fl l dss rl)(j:Nat)(o:aZ)(cs:Array SelectCase)(b:Bool)(ho:ol.toArray[j]?=some o):o.op≠ .select cs b:=by
 intro e
 have:=h.sel j o (by rw [←mT];exact ho)
 rw [e] at this
 cases this
def pO (N:Nat)(listed:Array Bool):Nat:=(dB N).countP fun i=> !listed.getD i false
theorem GC {p q:Nat→Bool}{i:Nat}:∀{L:List Nat},i∈L→(∀j,q j=true→p j=true)→p i=true→q i=false→L.countP q<L.countP p
 | [],h,_,_,_=>by cases h
 | j::L,h,hpq,hp,hq=>by
  have hle:L.countP q≤L.countP p:=List.countP_mono_left fun j _=>hpq j
  by_cases e:i=j
  ·subst e
   rw [wD,wD,hp,hq]
   simp;omega
  ·have hi:i∈L:=by
    rcases o1.1 h with h | h
    ·exact absurd h e
    ·exact h
   have:=GC hi hpq hp hq
   rw [wD,wD]
   cases hqj:q j with
   | true=>rw [hpq j hqj];simp;omega
   | false=>simp only [Bool.false_eq_true,if_false];omega
theorem kI (hi:i<N)(hs:listed.size=N)(h:listed.getD i false=false):pO N (listed.setIfInBounds i true)<pO N listed:=by
 refine GC (i:=i) (fN.2 hi) (fun j hj=>?_) (by simp only [h];rfl) ?_
 ·by_cases e:i=j
  ·subst e;simp [hs,hi] at hj
  ·rw [getD_set_ne false e] at hj;exact hj
 ·simp [hs,hi]
def Closed (ol:List aZ)(listed:Array Bool):Prop:=∀(i:Nat) (o:aZ),ol[i]?=some o→listed.getD i false=true→∀e∈o.after,iN .any e=true→listed.getD e.on false=true
theorem Closed.set (h:Closed ol listed)(ho:ol[i]?=some o)(hall:∀e∈o.after,iN .any e=true→listed.getD e.on false=true):Closed ol (listed.setIfInBounds i true):=by
 intro k ok f hl e he hb
 refine getD_set_true ?_
 by_cases p:i=k
 ·subst p
  rw [ho] at f
  cases f
  exact hall e he hb
 ·rw [getD_set_ne false p] at hl
  exact h k ok f hl e he hb
theorem Closed.reach (h:Closed ol listed)(hk:DrawOk n ol m fl l dss rl):∀(i:Nat) (o:aZ),ol[i]?=some o→(∀e∈o.after,iN .any e=true→listed.getD e.on false=true)→∀j∈cD rl i,listed.getD j false=true:=by
 intro i
 induction i using qV with
 | ind i ih=>
  intro o ho hall j hj
  obtain⟨e,he,hb,h1⟩:=hk.reach i o ho j hj
  have hlt:=hk.back i o ho e he hb
  rcases h1 with h1 | h1
  ·rw [←h1];exact hall e he hb
  ·have hN:e.on<ol.length:=Nat.lt_trans hlt (fD.1 ho).1
   exact ih e.on hlt _ (cA hN) (h e.on _ (cA hN) (hall e he hb)) j h1
theorem BC (hk:DrawOk n ol m fl l dss rl):∀(fuel k:Nat) (listed:Array Bool) (a:Act) (w:a7),m≤k→k≤ol.length→pO ol.length listed≤fuel→listed.size=ol.length→Closed ol listed→(∀i,i<ol.length→listed.getD i false=decide (i<k))→
  wpList P ol.toArray Q (ol.drop k) a w→wpAny P .any ol.toArray Q fuel listed a w:=by
 intro fuel
 induction fuel with
 | zero=>
  intro k listed a w hm hkl hf hs _ hl h
  have e:k=ol.length:=by
   rcases i7 k ol.length with h1 | h1
   ·have h2:listed.getD k false=false:=by rw [hl k h1];simp
    have:=kI h1 hs h2;omega
   ·omega
  subst e
  rw [List.drop_length] at h
  refine wpAny_done ?_ h 0
  refine wC.2 fun j hj=>?_
  obtain⟨h1,o,ho,_⟩:=jD.1 hj
  have hjl:j<ol.length:=(fD.1 ho).1
  rw [jH,hl j hjl] at h1
  simp [hjl] at h1
 | succ fuel ih=>
  intro k listed a w hm hkl hf hs hcl hl h
  rcases i7 k ol.length with hlt | hge
  ·obtain⟨o,ho⟩:∃o,ol[k]?=some o:=⟨_,cA hlt⟩
   have hrdy:k∈pC .any ol.toArray listed:=by
    refine jD.2 ⟨?_,o,ho,fun e he hb=>?_⟩
    ·rw [jH,hl k hlt];simp
    ·have:=hk.back k o ho e he hb
     rw [hl e.on (by omega)];simpa using this
   refine⟨fun h0=>(by rw [h0] at hrdy;cases hrdy),fun i hi=>?_⟩
   obtain⟨h1,o',ho',hall⟩:=jD.1 hi
   have hil:i<ol.length:=(fD.1 ho').1
   rw [jH,hl i hil] at h1
   have hik:k≤i:=by simpa using h1
   have hie:i=k:=by
    rcases i7 k i with h2 | h2
    ·rcases hk.tail i o' ho' (by omega) k h2 with h3 | h3
     ·have:=hk.flt k h3;omega
     ·have:=hcl.reach hk i o' ho' hall k h3
      rw [hl k hlt] at this
      simp at this
    ·omega
   subst hie
   have hd:ol.drop i=o::ol.drop (i+1):=by
    rw [mZ hlt]
    congr 1
    rw [cA hlt] at ho
    exact iU ho
   rw [hd] at h
   have hw:wpOp P ol.toArray Q i (wpList P ol.toArray Q (ol.drop (i+1))) a w:=by
    unfold wpOp
    rw [mT,ho]
    unfold wpList at h
    exact h
   refine wpOp_mono (fun a' w' h'=>?_) hw
   refine ih (i+1) _ a' w' (by omega) (by omega) (by have:=kI hil hs (by rw [hl i hil];simp);omega) (by simpa using hs) (hcl.set ho (by rw [ho] at ho';cases ho';exact hall)) (fun j hj=>?_) h'
   by_cases hij:i=j
   ·subst hij
    simp [hs,hil]
   ·rw [getD_set_ne false hij,hl j hj]
    congr 1
    simp only [eq_iff_iff]
    omega
  ·have e:k=ol.length:=by omega
   subst e
   rw [List.drop_length] at h
   refine wpAny_done ?_ h _
   refine wC.2 fun j hj=>?_
   obtain⟨h1,o,ho,_⟩:=jD.1 hj
   have hjl:j<ol.length:=(fD.1 ho).1
   rw [jH,hl j hjl] at h1
   simp [hjl] at h1
theorem Rp.put_far (h:Rp n l a)(hd:∀p∈l,p.1≠d)(v:aI):Rp n l (a.put (some d) v):=by
 refine⟨by simp [m9,h.size],by simp [m9,h.nod],fun i u hi=>?_⟩
 have hne:d≠i:=fun e=>by
  have key:∀(l:Fr),look l i=some u→∃p∈l,p.1=i:=by
   intro l
   induction l with
   | nil=>intro h;cases h
   | cons p r ih=>
    intro h
    obtain⟨j,x⟩:=p
    simp only [look] at h
    cases hb:mX j i with
    | true=>exact⟨(j,x),by simp,pG hb⟩
    | false=>
     rw [hb] at h
     obtain⟨p,hp,he⟩:=ih h
     exact⟨p,by simp [hp],he⟩
  obtain⟨p,hp,he⟩:=key l hi
  exact hd p hp (he.trans e.symm)
 have:=h.val i u hi
 simp only [m9,o5] at this⊢
 rwa [zW hne]
theorem pS (hs:a.tmps.size=n)(hd:d<n)(v:aI):gV (a.put (some d) v) (some d)=v:=by
 simp [gV,m9,hs,hd]
theorem tL {e:Option Tmp}(h:e≠some d)(v:aI):gV (a.put (some d) v) e=gV a e:=by
 cases e with
 | none=>rfl
 | some e=>
  have f:d≠e:=fun he=>h (by rw [he])
  simp only [gV,m9,o5]
  rw [zW f]
theorem BN (hk:DrawOk n ol m fl l dss rl)(ho:ol[i]?=some o)(him:i<m)(hm:∀i,m≤i→i<ol.length→listed.getD i false=false)(hr:Rp n l a)(hfact:∀i,i<ol.length→listed.getD i false=true→sW ol Rs w0 i a w)(hx:Ext w0 w)(e:Ext w w')(hR:iC Rs i v w'):Rp n l (a.put o.dst v)∧∀j,j<ol.length→(listed.setIfInBounds i true).getD j false=true→sW ol Rs w0 j (a.put o.dst v) w':=by
 obtain⟨d,L,H,E,p⟩:=hk.dst i o ho him
 rw [L]
 refine⟨hr.put_far E v,fun j hj f=>?_⟩
 by_cases q:i=j
 ·subst q
  refine⟨w',hx.trans e,Ext.refl _,?_⟩
  have F:dF ol i=some d:=by unfold dF;rw [ho];exact L
  rw [F,pS hr.size H]
  exact hR
 ·rw [getD_set_ne false q] at f
  have I:j<m:=by
   rcases i7 j m with h | h
   ·exact h
   ·rw [hm j h hj] at f;cases f
  obtain⟨V,F,U,M⟩:=hfact j hj f
  refine⟨V,F,U.t e,?_⟩
  rw [tL]
  ·exact M
  ·obtain⟨oj,D⟩:∃oj,ol[j]?=some oj:=⟨_,cA hj⟩
   unfold dF
   rw [D]
   exact p j oj D (lD q) I
theorem kU (hk:DrawOk n ol m fl l dss rl)(hoi:ol[i]?=some o)(him:i<m)(v:aI)(hne:i≠j)(hjm:j<m):gV (a.put o.dst v) (dF ol j)=gV a (dF ol j):=by
 obtain⟨d,p,_,_,f⟩:=hk.dst i o hoi him
 rw [p]
 refine tL ?_ v
 unfold dF
 obtain⟨oj,h⟩:∃oj,ol[j]?=some oj:=⟨_,cA (by have:=hk.mle;omega)⟩
 rw [h]
 exact f j oj h (lD hne) hjm
theorem FZ {acc:Fr}(_hal:∀i∈al,i<m∧i ∉ fl)(hacc:Rp n acc a)(hdi:∀i∈al,∀j∈al,i≠j→listed.getD i false=true→listed.getD j false=true→∀g,dH (gV a (dF ol i)) g→dH (gV a (dF ol j)) g→False)(hl:∀i∈al,listed.getD i false=true):sX ol al acc:=by
 intro i hi j hj f di dj hdi' hdj' u v o p
 have h:=hdi i hi j hj f (hl i hi) (hl j hj)
 rw [hdi',hdj'] at h
 rw [←hacc.val di u o,←hacc.val dj v p]
 exact h
theorem E5 {acc:Fr}(hacc:Rp n acc a)(hli:∀e∈lk,gV a (dF ol e.1)=sJ e.2.2 (gV a (dF ol e.2.1))):zJ ol lk acc:=by
 intro e he di dj hi hj u v f o
 have h:=hli e he
 rw [hi,hj] at h
 rw [←hacc.val di u f,←hacc.val dj v o]
 exact h
theorem OC {lk:List (Nat × Nat × Nat)}(hlk : sU ol m fl dss lk)(hk : DrawOk n ol m fl l dss rl)(hal : ∀ i ∈ al, i < m ∧ i ∉ fl)(hold : sS Rs al)(ho : lA P n ol fl al Rs l w0 dss 0)(hfin : ∀ w1, Ext w0 w1 → Deps ol Rs w0 w1 (fun acc => sX ol al acc → zJ ol lk acc → wl P ol.toArray (NP Q) n (ol.drop m) acc w1) (dB m) l):∀ (fuel : Nat) (listed : Array Bool) (a : Act) (w : a7), pO ol.length listed ≤ fuel → listed.size = ol.length → Closed ol listed → (∀ i, m ≤ i → i < ol.length → listed.getD i false = false) → Rp n l a → Ext w0 w →
      (∀ i, i < ol.length → listed.getD i false = true → sW ol Rs w0 i a w) → (∀ i ∈ al, ∀ j ∈ al, i ≠ j → listed.getD i false = true → listed.getD j false = true → ∀ g, dH (gV a (dF ol i)) g → dH (gV a (dF ol j)) g → False) → (∀ e ∈ lk, listed.getD e.1 false = true → gV a (dF ol e.1) = sJ e.2.2 (gV a (dF ol e.2.1))) → wpAny P .any ol.toArray (NP Q) fuel listed a w := by
  intro fuel
  induction fuel with
  | zero =>
    intro listed a w hf hs hcl hm hr hx hfact hdi hli
    have hall : ∀ i, i < ol.length → listed.getD i false = true := by
      intro i hi
      cases h : listed.getD i false with
      | true => rfl
      | false => have := kI hi hs h; omega
    have hml : m = ol.length := by
      rcases i7 m ol.length with h | h
      · have h1 := hm m (aS _) h
        rw [hall m h] at h1; cases h1
      · have := hk.mle; omega
    obtain ⟨acc, hacc, hwl⟩ := Deps.apply (n := n) (dB m) l (fun j hj => hfact j (by have := fN.1 hj; omega) (hall j (by have := fN.1 hj; omega))) (hfin w hx) hr
    exact BC hk 0 m listed a w (aS _) (by omega) hf hs hcl (fun i hi => by rw [hall i hi]; simp; omega) (hwl (FZ hal hacc hdi (fun i hi => hall i (by have := (hal i hi).1; omega))) (E5 hacc fun e he => hli e he (hall e.1 (by have := (hlk e he).1; omega))) a hacc)
  | succ fuel ih =>
    intro listed a w hf hs hcl hm hr hx hfact hdi hli
    by_cases hdone : ∀ i, i < m → listed.getD i false = true
    · obtain ⟨acc, hacc, hwl⟩ := Deps.apply (n := n) (dB m) l (fun j hj => hfact j (by have := fN.1 hj; have := hk.mle; omega) (hdone j (fN.1 hj))) (hfin w hx) hr
      exact BC hk (fuel + 1) m listed a w (aS _) hk.mle hf hs hcl (fun i hi => by
        rcases i7 i m with h | h
        · rw [hdone i h]; simpa using h
        · rw [hm i h hi]; simp; omega) (hwl (FZ hal hacc hdi (fun i hi => hdone i (hal i hi).1)) (E5 hacc fun e he => hli e he (hdone e.1 (hlk e he).1)) a hacc)
    · -- the least that is not listed
      obtain ⟨j, hjm, hjl, hleast⟩ : ∃ j, j < m ∧ listed.getD j false = false ∧ ∀ i, i < j → listed.getD i false = true := by
        have key : ∀ k, (∃ j, j < m ∧ j < k ∧ listed.getD j false = false) → ∃ j, j < m ∧ listed.getD j false = false ∧ ∀ i, i < j → listed.getD i false = true := by
          intro k
          induction k with
          | zero => rintro ⟨j, _, h, _⟩; omega
          | succ k ihk =>
            rintro ⟨j, h1, h2, h3⟩
            by_cases hs' : ∃ j, j < m ∧ j < k ∧ listed.getD j false = false
            · exact ihk hs'
            · refine ⟨j, h1, h3, fun i hi => ?_⟩
              cases hb : listed.getD i false with
              | true => rfl
              | false => exact absurd ⟨i, by omega, by omega, hb⟩ hs'
        refine key m (Classical.byContradiction fun hno => hdone fun i hi => ?_)
        cases hb : listed.getD i false with
        | true => rfl
        | false => exact absurd ⟨i, hi, hi, hb⟩ hno
      have hml := hk.mle
      obtain ⟨oj, hoj⟩ : ∃ oj, ol[j]? = some oj := ⟨_, cA (by omega)⟩
      have hjr : j ∈ pC .any ol.toArray listed := jD.2 ⟨by rw [jH]; exact hjl, oj, hoj, fun e he hb => hleast _ (hk.back j oj hoj e he hb)⟩
      have facts_of : ∀ (i : Nat) (o : aZ), ol[i]? = some o → i < m → i ∈ pC .any ol.toArray listed → ∀ k ∈ (dss[i]?).getD [], sW ol Rs w0 k a w := by
        intro i o hoi him hir k hkd
        have h1 := hk.deps i o hoi him k hkd
        obtain ⟨_, o', ho', hall⟩ := jD.1 hir
        rw [hoi] at ho'
        cases ho'
        have h2 := hcl.reach hk i o hoi hall k h1
        have h3 : k < listed.size := by
          rcases i7 k listed.size with h' | h'
          · exact h'
          · simp [Array.getElem?_eq_none h'] at h2
        exact hfact k (by omega) h2
      by_cases hfl : ∃ i ∈ fl, i ∈ pC .any ol.toArray listed
      · obtain ⟨i, hif, hir⟩ := hfl
        have him := hk.flt i hif
        obtain ⟨hun, o, hoi, hall⟩ := jD.1 hir
        have aC := xN (k := 0) ho i o (by simpa using hoi) (by rw [hk.dlen]; exact him)
        rw [eX, if_pos (by simpa using hif)] at aC
        obtain ⟨acc, hacc, v, hkn, hgd, hrun, hR⟩ := Deps.apply (n := n) _ l (facts_of i o hoi him hir) (aC w hx) hr
        have hy : Yields P ol.toArray o v a := bS ⟨by obtain ⟨d, op, ty, pos, af, gd⟩ := o; exact wT hgd hacc, fun w => by
          obtain ⟨d, op, ty, pos, af, gd⟩ := o
          rw [oS hkn hacc]; exact hrun w⟩
        have hex : (execOp a.eval o).run P w = .ok (.value v) w := by
          obtain ⟨d, op, ty, pos, af, gd⟩ := o
          rw [oS hkn hacc]; exact hrun w
        have hun' : listed.getD i false = false := by rw [← jH]; exact hun
        obtain ⟨h1, h2⟩ := BN hk hoi him hm hr hfact hx (Ext.refl w) hR
        refine wpAny_first (by rw [mT]; exact hoi) (MK hk) (fun c a w h => h.elim) fuel listed a w (fun k ok hok hki hkun hno => ?_) hir hy ?_
        · have hnr : k ∉ cD rl i := fun hm => by
            have h1 := hcl.reach hk i o hoi hall k hm
            have h2 : k < ol.length := (fD.1 (show ol[k]? = some ok by rw [← mT]; exact hok)).1
            rw [jH, h1] at hkun; cases hkun
          rcases hk.free i o hoi hif k ok (by rw [← mT]; exact hok) hki hnr with h | h
          · obtain ⟨e, he, hb, heq⟩ := OD h
            exact absurd heq (hno e he hb)
          · exact h
        · refine ih _ _ w (by have := kI (by omega) hs hun'; omega) (by simpa using hs) (hcl.set hoi hall) (fun k hmk hk' => ?_) h1 hx h2 (fun i' hi' j' hj' hne hli hlj => ?_) (fun e he hl => ?_)
          · rw [getD_set_ne false (by omega)]; exact hm k hmk hk'
          · have e1 : i ≠ i' := fun e => (hal i' hi').2 (e ▸ hif)
            have e2 : i ≠ j' := fun e => (hal j' hj').2 (e ▸ hif)
            rw [getD_set_ne false e1] at hli
            rw [getD_set_ne false e2] at hlj
            rw [kU hk hoi him v e1 (hal i' hi').1, kU hk hoi him v e2 (hal j' hj').1]
            exact hdi i' hi' j' hj' hne hli hlj
          · obtain ⟨k1, k2, k3, k4, o', t, k5, k6, k7⟩ := hlk e he
            have dep_ne : listed.getD e.2.1 false = true → i ≠ e.2.1 := fun h e' => by rw [← e', hun'] at h; cases h
            by_cases hie : i = e.1
            · have hdl : listed.getD e.2.1 false = true := hcl.reach hk i o hoi hall _ (by have := hk.deps i o hoi him e.2.1 (by rw [hie]; exact k4); exact this)
              rw [kU hk hoi him v (dep_ne hdl) k3]
              obtain ⟨d, hd, hdn, _⟩ := hk.dst i o hoi him
              have e1 : dF ol e.1 = some d := by rw [← hie]; unfold dF; rw [hoi]; exact hd
              rw [e1, hd, pS hr.size hdn, k7]
              have e2 : o' = o := by rw [← hie, hoi] at k5; exact (iU k5).symm
              exact R5 (o := o) (by rw [← e2]; exact k6) hex
            · rw [getD_set_ne false hie] at hl
              have hdl : listed.getD e.2.1 false = true := hcl.reach hk e.1 o' k5 (fun x hx hb => hcl e.1 o' k5 hl x hx hb) _ (hk.deps e.1 o' k5 k1 e.2.1 k4)
              rw [kU hk hoi him v hie k1, kU hk hoi him v (dep_ne hdl) k3]
              exact hli e he hl
      · have hjf : j ∉ fl := fun h => hfl ⟨j, h, hjr⟩
        refine ⟨fun h0 => (by rw [h0] at hjr; cases hjr), fun i hir => ?_⟩
        obtain ⟨hun, o, hoi, hall⟩ := jD.1 hir
        have hil : i < ol.length := (fD.1 hoi).1
        have him : i < m := by
          rcases i7 i m with h | h
          · exact h
          · rcases hk.tail i o hoi h j (by omega) with h1 | h1
            · exact absurd h1 hjf
            · have := hcl.reach hk i o hoi hall j h1
              rw [hjl] at this; cases this
        have hif : i ∉ fl := fun h => hfl ⟨i, h, hir⟩
        have hun' : listed.getD i false = false := by rw [← jH]; exact hun
        have aC := xN (k := 0) ho i o (by simpa using hoi) (by rw [hk.dlen]; exact him)
        rw [eX, if_neg (by simpa using hif)] at aC
        obtain ⟨acc, hacc, hwl⟩ := Deps.apply (n := n) _ l (facts_of i o hoi him hir) (aC w hx) hr
        have hl := hwl a hacc
        have next : ∀ v w', l9 w o.dst (fun v w' => iC Rs i v w' ∧ (al.contains i = true → nX w v)) .normal (a.put o.dst v) w' → wpAny P .any ol.toArray (NP Q) fuel (listed.setIfInBounds i true) (a.put o.dst v) w' := by
          intro v w' hpi
          obtain ⟨e, hR, _⟩ := hpi
          have hv : iC Rs i v w' ∧ (al.contains i = true → nX w v) := by
            obtain ⟨d, hd, hdn, _⟩ := hk.dst i o hoi him
            rw [hd, pS hr.size hdn] at hR
            exact hR
          obtain ⟨h1, h2⟩ := BN hk hoi him hm hr hfact hx e hv.1
          have hself : gV (a.put o.dst v) (dF ol i) = v := by
            obtain ⟨d, hd, hdn, _⟩ := hk.dst i o hoi him
            have e1 : dF ol i = some d := by unfold dF; rw [hoi]; exact hd
            rw [e1, hd, pS hr.size hdn]
          have fresh : ∀ j ∈ al, j ≠ i → listed.getD j false = true → al.contains i = true → ∀ g, dH (gV a (dF ol j)) g → dH v g → False := by
            intro j hj hji hlj hci g hg hg'
            obtain ⟨wj, _, f2, hRj⟩ := hfact j (by have := (hal j hj).1; omega) hlj
            have hlt := D2 hold j hj _ _ hRj g hg
            have hge := hv.2 hci g hg'
            have := f2.size
            omega
          refine ih _ _ w' (by have := kI hil hs hun'; omega) (by simpa using hs) (hcl.set hoi hall) (fun k hmk hk' => ?_) h1 (hx.trans e) h2 (fun i' hi' j' hj' hne hli hlj => ?_) (fun e he hl => ?_)
          · rw [getD_set_ne false (by omega)]; exact hm k hmk hk'
          · by_cases e1 : i = i'
            · subst e1
              rw [getD_set_ne false hne] at hlj
              rw [hself, kU hk hoi him v hne (hal j' hj').1]
              exact fun g h h' => fresh j' hj' (lD hne) hlj (by simpa using hi') g h' h
            · rw [getD_set_ne false e1] at hli
              by_cases e2 : i = j'
              · subst e2
                rw [hself, kU hk hoi him v e1 (hal i' hi').1]
                exact fresh i' hi' (lD e1) hli (by simpa using hj')
              · rw [getD_set_ne false e2] at hlj
                rw [kU hk hoi him v e1 (hal i' hi').1, kU hk hoi him v e2 (hal j' hj').1]
                exact hdi i' hi' j' hj' hne hli hlj
          · obtain ⟨k1, k2, k3, k4, o', t, k5, k6, k7⟩ := hlk e he
            have hie : i ≠ e.1 := fun e' => hif (e' ▸ k2)
            rw [getD_set_ne false hie] at hl
            have hdl : listed.getD e.2.1 false = true := hcl.reach hk e.1 o' k5 (fun x hx hb => hcl e.1 o' k5 hl x hx hb) _ (hk.deps e.1 o' k5 k1 e.2.1 k4)
            rw [kU hk hoi him v hie k1, kU hk hoi him v (fun e' => by rw [← e', hun'] at hdl; cases hdl) k3]
            exact hli e he hl
        have nolets : ¬ LetsOut (l9 w o.dst (fun v w' => iC Rs i v w' ∧ (al.contains i = true → nX w v))) := fun ⟨_, _, h⟩ => h
        unfold wpOp
        rw [mT, hoi]
        unfold wpList at hl
        simp only at hl ⊢
        split at hl
        · rename_i hw
          rw [if_pos hw]
          rcases hl with hl | hl
          · exact bS (wO hl (fun _ _ _ h => h) nolets (fun a w h => h.2.2) (fun v w' h => next v w' h))
          · exact absurd hl.2 nolets
        · rename_i hw
          rw [if_neg hw]
          exact next _ _ hl
theorem uX (hmix:P.follows .mixedOrders=true)(m:Nat)(fl al:List Nat)(lk:List (Nat×Nat×Nat))(Rs:List (aI→a7→Prop))(dss:List (List Nat))(rl:List (List Nat))(hk:sI n ol m fl l dss rl=true)(hal:al.all (fun i=>decide (i<m)&& !fl.contains i)=true)(hold:sS Rs al)(hlk:sU ol m fl dss lk)(ho:lA P n ol fl al Rs l w dss 0)(hfin:∀w1,Ext w w1→Deps ol Rs w w1 (fun acc=>sX ol al acc→zJ ol lk acc→wl P ol.toArray (NP Q) n (ol.drop m) acc w1) (dB m) l):cw P Q n (.region id ol.toArray true) l w:=fun a q=>by
 refine Code.wp_mono NP.imp (wp_region_any hmix ?_)
 have p:(rG ol.toArray.size false).size=ol.length:=by simp
 have f:∀i,(rG ol.toArray.size false).getD i false=false:=by
  intro i
  simp only [o5,zX]
  split <;> rfl
 have hal':∀i∈al,i<m∧i ∉ fl:=by
  intro i hi
  rw [eY] at hal
  simpa using hal i hi
 refine OC hlk (RC hk) hal' hold ho hfin ol.toArray.size _ a _ ?_ p (fun i o ho h=>by rw [f i] at h;cases h) (fun i _ hi=>f i) q (Ext.refl w).drew (fun i hi h=>by rw [f i] at h;cases h) (fun i _ j _ _ h=>by rw [f i] at h;cases h) (fun e _ h=>by rw [f e.1] at h;cases h)
 refine a6 zU ?_
 simp
theorem uK:sU ol m fl dss []:=fun e he=>by cases he
theorem qA (h5:∃o t,ol[i]?=some o∧o.op= .extract (.tmp t) k∧dF ol j=some t)(h:sU ol m fl dss lk)(h1:i<m:=by decide)(h2:i∈fl:=by decide)(h3:j<m:=by decide)(h4:j∈(dss[i]?).getD []:=by decide):sU ol m fl dss ((i,j,k)::lk):=fun e he=>by
 rcases o1.1 he with f | f
 ·subst f;exact⟨h1,h2,h3,h4,h5⟩
 ·exact h e f
theorem qH (hmix:P.follows .mixedOrders=true)(m:Nat)(fl al:List Nat)(Rs:List (aI→a7→Prop))(dss:List (List Nat))(rl:List (List Nat))(hk:sI n ol m fl l dss rl=true)(hal:al.all (fun i=>decide (i<m)&& !fl.contains i)=true)(hold:sS Rs al)(ho:lA P n ol fl al Rs l w dss 0)(hfin:∀w1,Ext w w1→Deps ol Rs w w1 (fun acc=>sX ol al acc→wl P ol.toArray (NP Q) n (ol.drop m) acc w1) (dB m) l):cw P Q n (.region id ol.toArray true) l w:=
 uX hmix m fl al [] Rs dss rl hk hal hold uK ho (fun w1 h=>Deps.weak (fun _ f o _=>f o) _ _ (hfin w1 h))
theorem cU (hmix:P.follows .mixedOrders=true)(m:Nat)(fl:List Nat)(Rs:List (aI→a7→Prop))(dss:List (List Nat))(rl:List (List Nat))(hk:sI n ol m fl l dss rl=true)(ho:lA P n ol fl [] Rs l w dss 0)(hfin:∀w1,Ext w w1→Deps ol Rs w w1 (fun acc=>wl P ol.toArray (NP Q) n (ol.drop m) acc w1) (dB m) l):cw P Q n (.region id ol.toArray true) l w:=
 qH hmix m fl [] Rs dss rl hk G Fo ho (fun w1 h=>Deps.weak (k:=fun acc=>wl P ol.toArray (NP Q) n (ol.drop m) acc w1) (k':=fun acc=>sX ol [] acc→wl P ol.toArray (NP Q) n (ol.drop m) acc w1) (fun _ f _=>f) _ _ (hfin w1 h))
theorem cE:lA P n ol fl al Rs l w [] k:=trivial
theorem aF (ho:ol[k]?=some o)(hf:fl.contains k=false)(h:qN P n ol al Rs l w k o ds)(h':lA P n ol fl al Rs l w dss (k+1)):lA P n ol fl al Rs l w (ds::dss) k:=
 ⟨by rw [ho];simp only;rw [hf];exact h,h'⟩
theorem cV (ho:ol[k]?=some o)(hf:fl.contains k=true)(h:vQ P ol Rs l w k o ds)(h':lA P n ol fl al Rs l w dss (k+1)):lA P n ol fl al Rs l w (ds::dss) k:=
 ⟨by rw [ho];simp only;rw [hf];exact h,h'⟩
theorem aC {R:aI→a7→Prop}(hR:Rs[k]?=some R)(hn:al.contains k=false)(h:∀w1,Ext w w1→Deps ol Rs w w1 (fun acc=>wl P ol.toArray (l9 w1 o.dst R) n [o] acc w1) ds l):qN P n ol al Rs l w k o ds:=by
 have e:iC Rs k=R:=by unfold iC;rw [hR];rfl
 intro w1 H
 rw [e]
 refine Deps.weak (fun acc E a F=>?_) _ _ (h w1 H)
 have p:=E a F
 unfold wpList at p⊢
 have imp:∀a' w',l9 w1 o.dst R .normal a' w'→l9 w1 o.dst (fun v w=>R v w∧(al.contains k=true→nX w1 v)) .normal a' w':=fun a' w' q=>⟨q.1,⟨q.2.1,fun D=>by rw [hn] at D;cases D⟩,q.2.2⟩
 split at p
 ·rename_i f
  rw [if_pos f]
  rcases p with p | p
  ·exact bS (wO p (fun _ _ _ h=>h) (fun⟨_,_,h⟩=>h) (fun a w h=>h.2.2) (fun v w' h=>imp _ _ h))
  ·exact absurd p.2 (fun⟨_,_,h⟩=>h)
 ·rename_i f
  rw [if_neg f]
  exact imp _ _ p
theorem y7 {N:a7→aI→Prop}(hN:∀w v,N w v→nX w v){R:aI→a7→Prop}(hR:Rs[k]?=some R)(h:∀w1,Ext w w1→Deps ol Rs w w1 (fun acc=>wl P ol.toArray (l9 w1 o.dst (fun v w=>R v w∧N w1 v)) n [o] acc w1) ds l):qN P n ol al Rs l w k o ds:=by
 have e:iC Rs k=R:=by unfold iC;rw [hR];rfl
 intro w1 F
 rw [e]
 refine Deps.weak (fun acc D a E=>?_) _ _ (h w1 F)
 have p:=D a E
 unfold wpList at p⊢
 have imp:∀a' w',l9 w1 o.dst (fun v w=>R v w∧N w1 v) .normal a' w'→l9 w1 o.dst (fun v w=>R v w∧(al.contains k=true→nX w1 v)) .normal a' w':=fun a' w' q=>⟨q.1,⟨q.2.1.1,fun _=>hN _ _ q.2.1.2⟩,q.2.2⟩
 split at p
 ·rename_i f
  rw [if_pos f]
  rcases p with p | p
  ·exact bS (wO p (fun _ _ _ h=>h) (fun⟨_,_,h⟩=>h) (fun a w h=>h.2.2) (fun v w' h=>imp _ _ h))
  ·exact absurd p.2 (fun⟨_,_,h⟩=>h)
 ·rename_i f
  rw [if_neg f]
  exact imp _ _ p
theorem NewVr.in_ (w:a7)(v:aI)(h:NewVr w v):nX w v:=by
 obtain⟨g,rfl,h⟩:=h
 intro k f
 rw [EJ f];exact h
theorem mK {R:aI→a7→Prop}(hR:Rs[k]?=some R)(h:∀w1,Ext w w1→Deps ol Rs w w1 (fun acc=>wl P ol.toArray (l9 w1 o.dst (fun v w=>R v w∧NewVr w1 v)) n [o] acc w1) ds l):qN P n ol al Rs l w k o ds:=y7 NewVr.in_ hR h
theorem cY {R:aI→a7→Prop}(hR:Rs[k]?=some R)(h:∀w1,Ext w w1→Deps ol Rs w w1 (fun acc=>∃v,jZ acc o.op=true∧dG ol.toArray acc o.guard=some true∧(∀w,(execOp (rho acc) o).run P w= .ok (.value v) w)∧R v w1) ds l):vQ P ol Rs l w k o ds:=by
 have e:iC Rs k=R:=by unfold iC;rw [hR];rfl
 intro w1 f
 rw [e]
 exact h w1 f
end
def i5 (P:cC)(n:Nat)(l:Fr)(o:aZ)(w:a7)(x:Next)(w':a7):Prop:=∀a,Rp n l a→(execOp a.eval o).run P w= .ok x w'
section
variable {P:cC}{n:Nat}{l:Fr}{w:a7}{d:Nat}{op:Op}{ty:aU}{pos:String}{af:Array Edge}{gd:Option (Nat×Bool)}
theorem iE (hk:jZ l op=true)(hr:(execOp (rho l) ⟨dst,op,ty,pos,af,gd⟩).run P w= .ok (.value v) w:=by kernel_rfl):i5 P n l ⟨dst,op,ty,pos,af,gd⟩ w (.value v) w:=fun a f=>by rw [oS hk f];exact hr
theorem cB {x:d7}{t:aU}(hx:bY l x=some (.pointer (some p)))(hl:(loadVar t p).run P w= .ok v w):i5 P n l ⟨dst,.load t x,ty,pos,af,gd⟩ w (.value v) w:=fun a f=>by
 have e:(wH t (a.eval x)).run P w= .ok v w:=by rw [f.ev hx];exact hl
 show ((wH t (a.eval x)>>=fun r=>pure (jA r):Sem Next)).run P w=_
 rw [dA,e];rfl
theorem eR {x y:d7}{t:aU}(hx:bY l x=some (.pointer (some p)))(hy:bY l y=some v)(hs:(storeVar t p v).run P w= .ok () w'):i5 P n l ⟨dst,.store t x y,ty,pos,af,gd⟩ w .skip w':=fun a f=>by
 have e:(wG t (a.eval x) (a.eval y)).run P w= .ok () w':=by rw [f.ev hx,f.ev hy];exact hs
 show ((wG t (a.eval x) (a.eval y)>>=fun _=>pure Next.skip:Sem Next)).run P w=_
 rw [dA,e];rfl
theorem kL {x:d7}(hx:bY l x=some v):i5 P n l ⟨dst,.assign x,ty,pos,af,gd⟩ w (.value v) w:=fun a f=>by simp only [execOp,f.ev hx];rfl
theorem cJ {x:d7}(hx:bY l x=some v):i5 P n l ⟨dst,.move x,ty,pos,af,gd⟩ w (.value v) w:=fun a f=>by simp only [execOp,f.ev hx];rfl
end
def dfr (ol:List aZ)(vs:List aI)(l:Fr):List Nat→Fr
 | []=>l
 | j::ds=>xJ (dF ol j) ((vs[j]?).getD undef) (dfr ol vs l ds)
def wv (ws:List a7)(w:a7)(t:Nat):a7:=(ws[t]?).getD w
section
variable (P:cC) (n:Nat) (ol:List aZ) (vs:List aI) (ws:List a7) (w:a7) (dss:List (List Nat)) (l:Fr) (st:List Nat)
def sY (i t:Nat):Prop:=
 match ol[i]? with
 | some o=>if st.contains i then i5 P n (dfr ol vs l (cD dss i)) o (wv ws w t) .skip (wv ws w (t+1)) else i5 P n (dfr ol vs l (cD dss i)) o (wv ws w t) (.value ((vs[i]?).getD undef)) (wv ws w t)
 | none=>True
def mV:List (Nat×Nat)→Prop
 | []=>True
 | (i,t)::r=>sY P n ol vs ws w dss l st i t∧mV r
def vH (ol:List aZ)(vs:List aI)(l:Fr):Fr:=dfr ol vs l (dB ol.length)
end
def iQ (st js:List Nat):Nat:=(st.filter fun s=>js.contains s).length
def yS (n : Nat)(ol : List aZ)(st : List Nat)(l : Fr)(dss rl : List (List Nat))(ps : List (Nat × Nat)): Bool :=
  (ol.zipIdx.all fun (o, i) => (match o.guard with | none => true | some _ => false) && (o.after.toList.all fun e => !Region.binds .any e || decide (e.on < i)) &&
    ((cD rl i).all fun j => decide (j < i) && o.after.toList.any fun e => iN .any e && (e.on == j || (cD rl e.on).contains j)) &&
    ((cD dss i).all fun j => (cD rl i).contains j) &&
    (match o.dst with
     | some d => !st.contains i && decide (d < n) && l.all (fun p => p.1 != d) && ol.zipIdx.all (fun (o', j) => j == i || o'.dst != some d)
     | none => st.contains i) &&
    (dB (st.length + 1)).all (fun t => decide (t < iQ st (cD rl i)) || (t != 0 && (cD rl (st.getD (t - 1) 0)).contains i) || (st.contains i && t != iQ st (cD rl i)) || ps.contains (i, t))) &&
  (dB st.length).all (fun t => decide (st.getD t 0 < ol.length) && (dB t).all fun u => (cD rl (st.getD t 0)).contains (st.getD u 0))
structure DetOk (n:Nat)(ol:List aZ)(st:List Nat)(l:Fr)(dss rl:List (List Nat))(ps:List (Nat×Nat)):Prop where
 guard:∀(i:Nat) (o:aZ),ol[i]?=some o→o.guard=none
 back:∀(i:Nat) (o:aZ),ol[i]?=some o→∀e∈o.after,iN .any e=true→e.on<i
 reach:∀(i:Nat) (o:aZ),ol[i]?=some o→∀j∈cD rl i,j<i∧∃e∈o.after,iN .any e=true∧(e.on=j∨j∈cD rl e.on)
 deps:∀(i:Nat) (o:aZ),ol[i]?=some o→∀j∈cD dss i,j∈cD rl i
 val:∀(i:Nat) (o:aZ),ol[i]?=some o→∀d,o.dst=some d→i ∉ st∧d<n∧(∀p∈l,p.1≠d)∧∀(j:Nat) (o':aZ),ol[j]?=some o'→j≠i→o'.dst≠some d
 sto:∀(i:Nat) (o:aZ),ol[i]?=some o→o.dst=none→i∈st
 pair:∀(i:Nat) (o:aZ),ol[i]?=some o→∀t,t≤st.length→iQ st (cD rl i)≤t→(t=0∨i ∉ cD rl (st.getD (t-1) 0))→(i∈st→t=iQ st (cD rl i))→(i,t)∈ps
 inN:∀t,t<st.length→st.getD t 0<ol.length
 ord:∀t,t<st.length→∀u,u<t→st.getD u 0∈cD rl (st.getD t 0)
theorem RW {l:Fr}{rl:List (List Nat)}(h:yS n ol st l dss rl ps=true):DetOk n ol st l dss rl ps:=by
 simp only [yS,eH] at h
 obtain⟨W,M⟩:=h
 have key:=fun (i:Nat) (o:aZ) (f:ol[i]?=some o)=>oV W i o f
 simp only [eH] at key
 have q:∀t,t<st.length→st.getD t 0<ol.length∧∀u,u<t→st.getD u 0∈cD rl (st.getD t 0):=by
  intro t D
  rw [eY] at M
  have:=M t (fN.2 D)
  simp only [eH,decide_eq_true_eq,eY,fN,lI] at this
  exact this
 refine⟨fun i o f=>?_,fun i o f e he hb=>?_,fun i o f j hj=>?_,fun i o f j hj=>?_,fun i o f d L=>?_,fun i o f L=>?_,fun i o f t D _ V hs=>?_,fun t D=>(q t D).1,fun t D=>(q t D).2⟩
 ·have:=(key i o f).1.1.1.1.1
  cases hg:o.guard with
  | none=>rfl
  | some g=>rw [hg] at this;cases this
 ·have:=(key i o f).1.1.1.1.2
  rw [eY] at this
  have:=this e (by simpa using he)
  simpa [hb] using this
 ·have:=(key i o f).1.1.1.2
  rw [eY] at this
  have:=this j hj
  simp only [eH,decide_eq_true_eq,wE,m8,beq_iff_eq,lI] at this
  obtain⟨E,e,he,hb,H⟩:=this
  exact⟨E,e,by simpa using he,hb,H⟩
 ·have:=(key i o f).1.1.2
  rw [eY] at this
  simpa using this j hj
 ·have:=(key i o f).1.2
  rw [L] at this
  simp only [eH,Bool.not_eq_true',decide_eq_true_eq] at this
  obtain⟨⟨⟨E,H⟩,U⟩,X⟩:=this
  refine⟨fun hm=>?_,H,fun p Y=>?_,fun j o' ho' F e=>?_⟩
  ·rw [lI.2 hm] at E;cases E
  ·rw [eY] at U
   simpa using U p Y
  ·have:=oV X j o' ho'
   simp only [m8,beq_iff_eq,bne_iff_ne] at this
   rcases this with h | h
   ·exact F h
   ·exact h e
 ·have:=(key i o f).1.2
  rw [L] at this
  exact lI.1 this
 ·have:=(key i o f).2
  rw [eY] at this
  have:=this t (fN.2 (by omega))
  simp only [m8,eH,decide_eq_true_eq,bne_iff_ne,ne_eq,lI] at this
  rcases this with ((h | h) | h) | h
  ·omega
  ·rcases V with I | I
   ·exact absurd I h.1
   ·exact absurd h.2 I
  ·exact absurd (hs h.1) h.2
  ·exact h
section
variable {P:cC}{Q:dQ→Act→a7→Prop}{n:Nat}{ol:List aZ}{vs:List aI}{ws:List a7}{w:a7}{dss rl:List (List Nat)}{l:Fr}{st:List Nat}{ps:List (Nat×Nat)}
theorem FW:∀{ps:List (Nat×Nat)},mV P n ol vs ws w dss l st ps→∀i t,(i,t)∈ps→sY P n ol vs ws w dss l st i t
 | [],_,i,t,h=>by cases h
 | (j,u)::r,h,i,t,hm=>by
  rcases o1.1 hm with e | e
  ·cases e;exact h.1
  ·exact FW h.2 i t e
theorem Rp.dfr {a:Act}(hr:Rp n l a):∀(ds:List Nat),(∀j∈ds,∀d,dF ol j=some d→a.tmps.getD d undef=(vs[j]?).getD undef)→Rp n (Go.Proofs.YtkkabncicmhjfaaGreat.dfr ol vs l ds) a
 | [],_=>hr
 | j::ds,h=>by
  have ih:=Rp.dfr hr ds (fun i hi=>h i (by simp [hi]))
  simp only [Go.Proofs.YtkkabncicmhjfaaGreat.dfr]
  cases hd:dF ol j with
  | none=>exact ih
  | some d=>exact ih.cons (h j (by simp) d hd)
theorem GJ (hk:DetOk n ol st l dss rl ps)(h:Closed ol listed):∀(i:Nat) (o:aZ),ol[i]?=some o→(∀e∈o.after,iN .any e=true→listed.getD e.on false=true)→∀j∈cD rl i,listed.getD j false=true:=by
 intro i
 induction i using qV with
 | ind i ih=>
  intro o ho hall j hj
  obtain⟨_,e,he,hb,h1⟩:=hk.reach i o ho j hj
  have hlt:=hk.back i o ho e he hb
  rcases h1 with h1 | h1
  ·rw [←h1];exact hall e he hb
  ·have hN:e.on<ol.length:=Nat.lt_trans hlt (fD.1 ho).1
   exact ih e.on hlt _ (cA hN) (h e.on _ (cA hN) (hall e he hb)) j h1
theorem GD {t:Nat}(h:∀u,t≤u→u<st.length→st.getD u 0 ∉ js):iQ st js≤t:=by
 unfold iQ
 have e:st.filter (fun s=>js.contains s)=(st.take t).filter (fun s=>js.contains s)++(st.drop t).filter (fun s=>js.contains s):=by rw [←ID,r9]
 have o:(st.drop t).filter (fun s=>js.contains s)= []:=by
  refine List.filter_eq_nil_iff.2 fun s hs=>?_
  obtain⟨u,f,rfl⟩:=rA hs
  rw [mY] at f
  have:=h (t+u) (by omega) (by omega)
  rw [List.getElem_drop]
  rw [bE,cA (by omega)] at this
  simpa using this
 rw [e,o,List.append_nil]
 refine a6 (List.length_filter_le _ _) ?_
 rw [dK];omega
theorem EB {t:Nat}(ht:t≤st.length)(h:∀u,u<t→st.getD u 0∈js):t≤iQ st js:=by
 unfold iQ
 have e:st.filter (fun s=>js.contains s)=(st.take t).filter (fun s=>js.contains s)++(st.drop t).filter (fun s=>js.contains s):=by rw [←ID,r9]
 have o:(st.take t).filter (fun s=>js.contains s)=st.take t:=by
  refine List.filter_eq_self.2 fun s hs=>?_
  obtain⟨u,f,rfl⟩:=rA hs
  rw [dK] at f
  have:=h u (by omega)
  rw [List.getElem_take]
  rw [bE,cA (by omega)] at this
  simpa using this
 rw [e,o,List.length_append,dK];omega
theorem RU (hk:DetOk n ol st l dss rl ps)(ho:mV P n ol vs ws w dss l st ps)(hfin:eo Q .normal n (vH ol vs l) (wv ws w st.length)):∀(fuel:Nat) (listed:Array Bool) (a:Act) (t:Nat),pO ol.length listed≤fuel→listed.size=ol.length→Closed ol listed→t≤st.length→(∀u,u<st.length→listed.getD (st.getD u 0) false=decide (u<t))→Rp n l a→
   (∀i,i<ol.length→listed.getD i false=true→∀d,dF ol i=some d→a.tmps.getD d undef=(vs[i]?).getD undef)→wpAny P .any ol.toArray Q fuel listed a (wv ws w t):=by
 have fin:∀(listed:Array Bool) (a:Act) (t:Nat),(∀i,i<ol.length→listed.getD i false=true)→t≤st.length→(∀u,u<st.length→listed.getD (st.getD u 0) false=decide (u<t))→Rp n l a→
   (∀i,i<ol.length→listed.getD i false=true→∀d,dF ol i=some d→a.tmps.getD d undef=(vs[i]?).getD undef)→Q .normal a (wv ws w t):=by
  intro listed a t hall ht hst hr hv
  have e:t=st.length:=by
   rcases i7 t st.length with h | h
   ·have h1:=hst t h
    rw [hall _ (hk.inN t h)] at h1
    simp at h1
   ·omega
  subst e
  exact hfin a (hr.dfr _ fun j hj d hd=>hv j (fN.1 hj) (hall j (fN.1 hj)) d hd)
 intro fuel
 induction fuel with
 | zero=>
  intro listed a t hf hs hcl ht hst hr hv
  have hall:∀i,i<ol.length→listed.getD i false=true:=by
   intro i hi
   cases h:listed.getD i false with
   | true=>rfl
   | false=>have:=kI hi hs h;omega
  refine⟨?_,fin listed a t hall ht hst hr hv⟩
  refine wC.2 fun j hj=>?_
  obtain⟨h1,o,hoj,_⟩:=jD.1 hj
  have hjl:j<ol.length:=(fD.1 hoj).1
  rw [jH,hall j hjl] at h1
  cases h1
 | succ fuel ih=>
  intro listed a t hf hs hcl ht hst hr hv
  refine⟨fun h0=>?_,fun i hir=>?_⟩
  ·refine fin listed a t (fun i hi=>?_) ht hst hr hv
   have key:∀k,k≤ol.length→∀i,i<k→listed.getD i false=true:=by
    intro k
    induction k with
    | zero=>intro _ i hi;omega
    | succ k ihk=>
     intro hk' i hi
     have ih':=ihk (by omega)
     rcases i7 i k with h | h
     ·exact ih' i h
     ·have e:i=k:=by omega
      subst e
      cases hb:listed.getD i false with
      | true=>rfl
      | false=>
       have hrdy:i∈pC .any ol.toArray listed:=jD.2 ⟨by rw [jH];exact hb,_,cA (by omega),fun e he hbb=>ih' _ (hk.back i _ (cA (by omega)) e he hbb)⟩
       rw [h0] at hrdy;cases hrdy
   exact key ol.length (aS _) i hi
  ·obtain⟨hun,o,hoi,hall⟩:=jD.1 hir
   have hil:i<ol.length:=(fD.1 hoi).1
   have hun':listed.getD i false=false:=by rw [←jH];exact hun
   have hrch:=GJ hk hcl i o hoi hall
   have hcnt:iQ st (cD rl i)≤t:=GD fun u hu1 hu2 hm=>by
    have h1:=hrch _ hm
    rw [hst u hu2] at h1
    simp at h1;omega
   have hzero:t=0∨i ∉ cD rl (st.getD (t-1) 0):=by
    rcases kF t with h | h
    ·exact bS h
    ·refine bW fun hm=>?_
     have h1:=hst (t-1) (by omega)
     rw [decide_eq_true (by omega)] at h1
     have hN:=hk.inN (t-1) (by omega)
     have h2:=GJ hk hcl _ _ (cA hN) (fun e he hb=>hcl _ _ (cA hN) h1 e he hb) i hm
     rw [hun'] at h2;cases h2
   have hstore:i∈st→t<st.length∧st.getD t 0=i∧t=iQ st (cD rl i):=by
    intro hm
    obtain⟨u,hu,heq⟩:=rA hm
    have hg:st.getD u 0=i:=by rw [bE,cA hu];exact heq
    have h1:=hst u hu
    rw [hg,hun'] at h1
    have h2:¬u<t:=by intro h;rw [decide_eq_true h] at h1;cases h1
    have h3:u=t:=by
     rcases i7 t u with h | h
     ·have h4:=hk.ord u hu t h
      rw [hg] at h4
      have h5:=hrch _ h4
      rw [hst t (by omega)] at h5
      simp at h5
     ·omega
    subst h3
    refine⟨hu,hg,?_⟩
    have h4:=EB (st:=st) (js:=cD rl i) (t:=u) (by omega) (fun v hv'=>by rw [←hg];exact hk.ord u hu v hv')
    omega
   have aC:=FW ho i t (hk.pair i o hoi t ht hcnt hzero (fun hm=>(hstore hm).2.2))
   unfold sY at aC
   rw [hoi] at aC
   simp only at aC
   have hacc:Rp n (dfr ol vs l (cD dss i)) a:=hr.dfr _ fun j hj d hd=>by
    have h1:=hrch j (hk.deps i o hoi j hj)
    have h2:=(hk.reach i o hoi j (hk.deps i o hoi j hj)).1
    exact hv j (by omega) h1 d hd
   have hwant:qU o (yielded ol.toArray a.tmps)=true:=by simp [qU,hk.guard i o hoi]
   unfold wpOp
   rw [mT,hoi]
   simp only
   rw [if_pos hwant]
   refine bS ?_
   unfold lC
   cases hd:o.dst with
   | some d=>
    obtain⟨hnst,hdn,hfar,hoth⟩:=hk.val i o hoi d hd
    rw [if_neg (by simpa using hnst)] at aC
    rw [aC a hacc]
    simp only [lW,hd]
    refine ih _ _ t (by have:=kI hil hs hun';omega) (by simpa using hs) (hcl.set hoi hall) ht (fun u hu=>?_) (hr.put_far hfar _) (fun j hj hlj e he=>?_)
    ·rw [getD_set_ne false (fun e=>hnst (by rw [e,bE,cA hu];exact rB hu))]
     exact hst u hu
    ·by_cases hij:i=j
     ·subst hij
      have e1:dF ol i=some d:=by unfold dF;rw [hoi];exact hd
      rw [e1] at he
      cases he
      exact pS hr.size hdn _
     ·rw [getD_set_ne false hij] at hlj
      have hne:e≠d:=by
       intro hed
       subst hed
       obtain⟨oj,hoj⟩:∃oj,ol[j]?=some oj:=⟨_,cA hj⟩
       refine hoth j oj hoj (lD hij) ?_
       unfold dF at he
       rw [hoj] at he
       exact he
      have:=tL (a:=a) (d:=d) (e:=some e) (fun h=>hne (iU h)) ((vs[i]?).getD undef)
      exact this.trans (hv j hj hlj e he)
   | none=>
    have hm:=hk.sto i o hoi hd
    obtain⟨htl,hgt,_⟩:=hstore hm
    rw [if_pos (by simpa using hm)] at aC
    rw [aC a hacc]
    simp only [lW,hd]
    refine ih _ _ (t+1) (by have:=kI hil hs hun';omega) (by simpa using hs) (hcl.set hoi hall) (by omega) (fun u hu=>?_) hr (fun j hj hlj e he=>?_)
    ·by_cases hut:u=t
     ·subst hut
      rw [hgt]
      simp [hs,hil]
     ·have hne:i≠st.getD u 0:=by
       intro e
       rcases i7 u t with h | h
       ·have h1:=hst u hu
        rw [←e,hun',decide_eq_true h] at h1;cases h1
       ·have h4:=hk.ord u hu t (by omega)
        rw [hgt,←e] at h4
        have:=(hk.reach i o hoi i h4).1
        omega
      rw [getD_set_ne false hne,hst u hu]
      congr 1
      simp only [eq_iff_iff]
      omega
    ·by_cases hij:i=j
     ·subst hij
      have e1:dF ol i=none:=by unfold dF;rw [hoi];exact hd
      rw [e1] at he;cases he
     ·rw [getD_set_ne false hij] at hlj
      exact hv j hj hlj e he
theorem gI (hmix:P.follows .mixedOrders=true)(vs:List aI)(ws:List a7)(st:List Nat)(dss rl:List (List Nat))(ps:List (Nat×Nat))(hk:yS n ol st l dss rl ps=true)(hw:wv ws w 0=w0.drew)(ho:mV P n ol vs ws w dss l st ps)(hfin:eo Q .normal n (vH ol vs l) (wv ws w st.length)):cw P Q n (.region id ol.toArray true) l w0:=fun a q=>by
 refine wp_region_any hmix ?_
 have p:(rG ol.toArray.size false).size=ol.length:=by simp
 have f:∀i,(rG ol.toArray.size false).getD i false=false:=by
  intro i
  simp only [o5,zX]
  split <;> rfl
 have:=RU (RW hk) ho hfin ol.toArray.size _ a 0 (by
  refine a6 zU ?_
  simp) p (fun i o _ h=>by rw [f] at h;cases h) (bJ _) (fun u _=>by rw [f];simp) q (fun i _ h=>by rw [f] at h;cases h)
 rw [hw] at this
 exact this
theorem aX {t:Nat}(acc:Fr)(ho:ol[i]?=some o)(hs:st.contains i=false)(hv:(vs[i]?).getD undef=v)(hw:wv ws w t=wt)(hacc:dfr ol vs l (cD dss i)=acc)(h:i5 P n acc o wt (.value v) wt)(h':mV P n ol vs ws w dss l st ps):mV P n ol vs ws w dss l st ((i,t)::ps):=⟨by unfold sY;rw [ho];simp only;rw [hs,if_neg (by simp),hv,hw,hacc];exact h,h'⟩
theorem f7 {t:Nat}{wt':a7}(acc:Fr)(ho:ol[i]?=some o)(hs:st.contains i=true)(hw:wv ws w t=wt)(hw':wv ws w (t+1)=wt')(hacc:dfr ol vs l (cD dss i)=acc)(h:i5 P n acc o wt .skip wt')(h':mV P n ol vs ws w dss l st ps):mV P n ol vs ws w dss l st ((i,t)::ps):=⟨by unfold sY;rw [ho];simp only;rw [hs,if_pos rfl,hw,hw',hacc];exact h,h'⟩
theorem gH:mV P n ol vs ws w dss l st []:=trivial
end
def dP (n:Nat):Nat:=if n=0 then 0 else Nat.log2 n+1
theorem yY:dP 0=0:=rfl
theorem rV (n:Nat):n<2^dP n:=by
 unfold dP
 split
 ·omega
 ·exact Nat.lt_log2_self
theorem yZ (h:n≠0):2^(dP n-1)≤n:=by
 unfold dP
 rw [if_neg h,Nat.add_sub_cancel]
 exact Nat.log2_self_le h
theorem sM:dP n=0↔n=0:=by
 unfold dP;split <;> simp_all
theorem vD (h:n<2^k):dP n≤k:=by
 by_cases f:n=0
 ·subst f;rw [yY];omega
 ·have o:=yZ f
  have p:2^(dP n-1)<2^k:=lG o h
  have:=(zO (by omega:1<2)).1 p
  have q:dP n≠0:=fun e=>f (sM.1 e)
  omega
theorem GQ (h1:n<2^k)(h2:k=0∨2^(k-1)≤n):dP n=k:=by
 have p:=vD h1
 rcases h2 with h | h
 ·omega
 ·by_cases o:k=0
  ·omega
  ·have f:2^(k-1)<2^dP n:=lG h (rV n)
   have:=(zO (by omega:1<2)).1 f
   omega
theorem GT (x:Nat)(h:x<18446744073709551616):Lib.bitLen x=dP x:=by
 by_cases f:x=0
 ·subst f;simp [Lib.bitLen,Lib.bitLenAux_zero,yY]
 ·obtain⟨a,b,c⟩:=Lib.bitLenAux_bounds 64 x h f
  exact (GQ c (bW b)).symm
theorem kD:WB=2^64:=by decide
theorem GO (x y c:Nat)(hc:c≤1)(w:a7):(callFunc 112 #[AI (x:Int),AI (y:Int),AI (c:Int)]).run aM w=
   .ok (.value (.tuple #[AI (((x+y+c)%18446744073709551616:Nat):Int),AI (((x+y+c)/18446744073709551616:Nat):Int)])) w:=by
 rw [run_callFunc_extern Tryz.func112 (by kernel_rfl) (by kernel_rfl) (by kernel_rfl) (e:=add64Entry) (by kernel_rfl),run_add64 x y c (by omega) (by omega) (by omega) (by omega)]
 simp only [Result.andThen]
 congr 5 <;> omega
theorem vL {c:Nat}(hc:c≤1)(hx:x≤18446744073709551615)(hy:y≤18446744073709551615):∃s d:Nat,Hid (s+WB*d=x+y+c)∧s≤18446744073709551615∧d≤1∧
  ∀w,(callFunc 112 #[AI (x:Int),AI (y:Int),AI (c:Int)]).run aM w= .ok (.value (.tuple #[AI (s:Int),AI (d:Int)])) w:=
 ⟨(x+y+c)%18446744073709551616,(x+y+c)/18446744073709551616,(show _=_ by rw [cI];exact jN _ _),by omega,by omega,fun w=>GO x y c hc w⟩
theorem sO (hx:x≤18446744073709551615)(hy:y≤18446744073709551615):∃s d:Nat,Hid (s+WB*d=x+y)∧s≤18446744073709551615∧d≤1∧
  ∀w,(callFunc 112 #[AI (x:Int),AI (y:Int),AI 0]).run aM w= .ok (.value (.tuple #[AI (s:Int),AI (d:Int)])) w:=
 vL (c:=0) (by omega) hx hy
theorem TB (hx:x≤18446744073709551615):∃s d:Nat,Hid (s+WB*d=x+1)∧s≤18446744073709551615∧d≤1∧
  ∀w,(callFunc 112 #[AI (x:Int),AI 0,AI 1]).run aM w= .ok (.value (.tuple #[AI (s:Int),AI (d:Int)])) w:=
 vL (y:=0) (c:=1) (by omega) hx (by omega)
theorem AN {Q:dQ→Act→a7→Prop}(hgd:o.guard=none)(x y c:d7)(ho:o.op= .call {callee:= .value (.func 112),args:= #[x,y,c],argTypes:=ts})(X Y C:Nat)(hx:a.eval x= AI (X:Int))(hy:a.eval y= AI (Y:Int))(hz:a.eval c= AI (C:Int))(hC:C≤1)(hX:X≤18446744073709551615)(hY:Y≤18446744073709551615)(h:∀s d:Nat,Hid (s+WB*d=X+Y+C)→s≤18446744073709551615→d≤1→wpList aM ops Q rest (a.put o.dst (.tuple #[AI (s:Int),AI (d:Int)])) w):wpList aM ops Q (o::rest) a w:=by
 refine vS hgd fun K p=>?_
 have f:=GO X Y C hC w
 unfold lC
 have hf:a.eval (.func 112)= .func (.func 112) #[] #[]:=rfl
 simp [execOp,ho,resolve,invoke,hf,hx,hy,hz,f,IE,lW]
 have:=p _ _ (h ((X+Y+C)%18446744073709551616) ((X+Y+C)/18446744073709551616) (show _=_ by rw [cI];exact jN _ _) (by omega) (by omega))
 simpa using this
theorem GN (x y b:Nat)(hb:b≤1)(w:a7):(callFunc 113 #[AI (x:Int),AI (y:Int),AI (b:Int)]).run aM w=
   .ok (.value (.tuple #[AI (((x+18446744073709551616-y-b)%18446744073709551616:Nat):Int),AI ((if x<y+b then 1 else 0:Nat):Int)])) w:=by
 rw [run_callFunc_extern Tryz.func113 (by kernel_rfl) (by kernel_rfl) (by kernel_rfl) (e:=sub64Entry) (by kernel_rfl),run_sub64 x y b hb]
 rfl
theorem tJ {c:Nat}(hc:c≤1)(hx:x≤18446744073709551615)(hy:y≤18446744073709551615):∃s d:Nat,Hid (s+y+c=x+WB*d)∧s≤18446744073709551615∧d≤1∧
  ∀w,(callFunc 113 #[AI (x:Int),AI (y:Int),AI (c:Int)]).run aM w= .ok (.value (.tuple #[AI (s:Int),AI (d:Int)])) w:=by
 have f:=fun w=>GN x y c hc w
 have p:(x+18446744073709551616-y-c)%18446744073709551616+y+c=x+WB*(if x<y+c then 1 else 0):=by rw [cI];split <;> omega
 have h:(x+18446744073709551616-y-c)%18446744073709551616≤18446744073709551615:=by omega
 have o:(if x<y+c then 1 else 0)≤1:=by split <;> omega
 exact⟨_,_,p,h,o,f⟩
theorem KI (hx:x≤18446744073709551615):∃s d:Nat,Hid (s+0+1=x+WB*d)∧s≤18446744073709551615∧d≤1∧
  ∀w,(callFunc 113 #[AI (x:Int),AI 0,AI 1]).run aM w= .ok (.value (.tuple #[AI (s:Int),AI (d:Int)])) w:=
 tJ (y:=0) (c:=1) (by omega) hx (by omega)
theorem AH {Q:dQ→Act→a7→Prop}(hgd:o.guard=none)(x y c:d7)(ho:o.op= .call {callee:= .value (.func 113),args:= #[x,y,c],argTypes:=ts})(X Y C:Nat)(hx:a.eval x= AI (X:Int))(hy:a.eval y= AI (Y:Int))(hz:a.eval c= AI (C:Int))(hC:C≤1)(hX:X≤18446744073709551615)(hY:Y≤18446744073709551615)(h:∀s d:Nat,Hid (s+Y+C=X+WB*d)→s≤18446744073709551615→d≤1→wpList aM ops Q rest (a.put o.dst (.tuple #[AI (s:Int),AI (d:Int)])) w):wpList aM ops Q (o::rest) a w:=by
 refine vS hgd fun K D=>?_
 have f:=GN X Y C hC w
 have E:(X+18446744073709551616-Y-C)%18446744073709551616+Y+C=X+WB*(if X<Y+C then 1 else 0):=by rw [cI];split <;> omega
 have p:(X+18446744073709551616-Y-C)%18446744073709551616≤18446744073709551615:=by omega
 have q:(if X<Y+C then 1 else 0)≤1:=by split <;> omega
 generalize (X+18446744073709551616-Y-C)%18446744073709551616=s at*
 generalize (if X<Y+C then 1 else 0)=d at*
 unfold lC
 have hf:a.eval (.func 113)= .func (.func 113) #[] #[]:=rfl
 simp only [execOp,ho,resolve,invoke,hf,IE,pI,kH,lH,hx,hy,hz,dA,gT,eW,Array.empty_append,Array.append_empty,f,lW]
 exact D _ _ (h s d E p q)
theorem bits_Mul64 (x y:Nat)(hx:x≤18446744073709551615)(hy:y≤18446744073709551615)(w:a7):aQ aM 126 #[AI (x:Int),AI (y:Int)] w fun e w'=>∃hi lo:Nat,Hid (lo+WB*hi=x*y)∧hi≤18446744073709551615∧lo≤18446744073709551615∧
   e= .returned (.tuple #[AI (hi:Int),AI (lo:Int)])∧w=w':=by
 refine (Tryz.bits_Mul64 x y (by omega) (by omega) w).mono ?_
 rintro e w' ⟨rfl,rfl⟩
 refine⟨x*y/18446744073709551616,x*y%18446744073709551616,show _=_ by rw [cI];exact jN _ _,?_,by omega,rfl,rfl⟩
 have f:x*y≤18446744073709551615*18446744073709551615:=kE hx hy
 omega
theorem bits_Len64 (x:Nat)(hx:x≤18446744073709551615)(w:a7):aQ aM 84 #[AI (x:Int)] w fun e w'=>∃n:Nat,Hid (n=dP x)∧n≤64∧e= .returned (v4 (n:Int))∧w=w':=by
 refine (Tryz.bits_Len64 x w (by omega) (by omega)).mono ?_
 rintro e w' ⟨rfl,rfl⟩
 refine⟨dP x,rfl,vD (by omega),?_,rfl⟩
 rw [jQ,GT x (by omega)]
theorem bits_LeadingZeros64 (x:Nat)(hx:x≤18446744073709551615)(w:a7):aQ aM 106 #[AI (x:Int)] w fun e w'=>∃n:Nat,Hid (n+dP x=64)∧n≤64∧e= .returned (v4 (n:Int))∧w=w':=by
 refine (Tryz.bits_LeadingZeros64 x w (by omega) (by omega)).mono ?_
 rintro e w' ⟨rfl,rfl⟩
 have f:dP x≤64:=vD (by omega)
 refine⟨64-dP x,show _=_ by omega,by omega,?_,rfl⟩
 rw [jQ,GT x (by omega)]
 congr 2;omega
def y5:jB→Bool
 | .eql=>true
 | .neq=>true
 | _=>false
theorem AK {Q:dQ→Act→a7→Prop}(hgd:o.guard=none){t:aU}{x y:d7}(ho:o.op= .binOp op t x y ty)(hx:a.eval x=vx)(hy:a.eval y=vy)(hne:y5 op=false)(hr:∀w,(binOp op t vx vy).run P w= .ok v w)(h:wpList P ops Q rest (a.put o.dst v) w):wpList P ops Q (o::rest) a w:=by
 refine vS hgd fun K f=>?_
 unfold lC
 have p:(eqGuard op t x y vx vy).run P w= .ok () w:=by
  unfold eqGuard
  cases op <;> first | rfl | exact absurd hne (by decide)
 simp only [execOp,ho,hx,hy,dA,p,eW,hr,gT,lW]
 exact f _ _ h
theorem dS {Q:dQ→Act→a7→Prop}(hgd:o.guard=none){t:aU}{x y:d7}(ho:o.op= .binOp op t x y ty){f:Nat}(hx:a.eval x=vx)(hy:a.eval y=vy)(hne:y5 op=false)(hr:∀(P:cC) (t:aU) (w:a7),(binOp op t vx vy).run P w= .ok (AI (f:Int)) w)(h:∀r:Nat,Hid (r=f)→r≤18446744073709551615→wpList P ops Q rest (a.put o.dst (AI (r:Int))) w)(hf:f≤18446744073709551615:=by omega):wpList P ops Q (o::rest) a w:=
 AK hgd ho hx hy hne (fun w=>hr P t w) (h f G hf)
theorem lK (n:Nat):IntKind.u64.wrap (n:Int)=((n%18446744073709551616:Nat):Int):=by
 simp [tC,rE,rD]
theorem oA (hs:s≤64)(P:cC)(t:aU)(w:a7):(binOp .shl t (AI (x:Int)) (AI (s:Int))).run P w= .ok (AI ((x*2^s%18446744073709551616:Nat):Int)) w:=by
 have e:((x:Int)*2^min (s:Int).toNat IntKind.u64.bits)=((x*2^s:Nat):Int):=by
  rw [jQ,show min s IntKind.u64.bits=s from gL hs];simp
 simp only [binOp]
 rw [shift_shl_any _ _ _ _ (by omega),e,lK];rfl
theorem mE (hs:s≤64)(P:cC)(t:aU)(w:a7):(binOp .shr t (AI (x:Int)) (AI (s:Int))).run P w= .ok (AI ((x/2^s:Nat):Int)) w:=by
 have e:((x:Int)/2^min (s:Int).toNat IntKind.u64.bits)=((x/2^s:Nat):Int):=by
  rw [jQ,show min s IntKind.u64.bits=s from gL hs];simp
 simp only [binOp]
 rw [shift_shr_any _ _ _ _ (by omega),e];rfl
theorem pP (P:cC)(t:aU)(w:a7):(binOp .mul t (AI (x:Int)) (AI (y:Int))).run P w= .ok (AI ((x*y%18446744073709551616:Nat):Int)) w:=by
 rw [←lK,jR];rfl
theorem wU (P:cC)(t:aU)(w:a7):(binOp .add t (AI (x:Int)) (AI (y:Int))).run P w= .ok (AI (((x+y)%18446744073709551616:Nat):Int)) w:=by
 rw [←lK,Int.natCast_add];rfl
theorem o8 (hy:y≤18446744073709551616)(P:cC)(t:aU)(w:a7):(binOp .sub t (AI (x:Int)) (AI (y:Int))).run P w= .ok (AI (((x+(18446744073709551616-y))%18446744073709551616:Nat):Int)) w:=by
 have e:IntKind.u64.wrap ((x:Int)-(y:Int))=(((x+(18446744073709551616-y))%18446744073709551616:Nat):Int):=by
  simp only [tC,rE,rD]
  simp
  omega
 rw [←e];rfl
theorem B6 (hy:y≠0)(hx:x≤18446744073709551615)(P:cC)(t:aU)(w:a7):(binOp .quo t (AI (x:Int)) (AI (y:Int))).run P w= .ok (AI ((x/y:Nat):Int)) w:=by
 have f:=i8 x y
 have e:IntKind.u64.wrap ((x:Int).tdiv (y:Int))=((x/y:Nat):Int):=by
  have:(x:Int).tdiv (y:Int)=((x/y:Nat):Int):=by rw [wF (by omega)];simp
  rw [this,lK,fM (by omega)]
 simp only [binOp,Op.intDiv]
 simp [hy]
 rw [show (↑x/ ↑y:Int)=((x/y:Nat):Int) from by simp] at*
 simpa [wF] using e
theorem pZ (hx:x≤18446744073709551615):(pM 64 (x:Int)).toNat=x:=ofInt_u64 x (by omega)
theorem rL (hx:x≤18446744073709551615)(hy:y≤18446744073709551615)(P:cC)(t:aU)(w:a7):(binOp .or t (AI (x:Int)) (AI (y:Int))).run P w= .ok (AI ((x||| y:Nat):Int)) w:=by
 have e:IntKind.u64.wrap ((pM 64 (x:Int)||| pM 64 (y:Int)).toNat:Int)=((x||| y:Nat):Int):=by
  rw [BitVec.toNat_or,pZ hx,pZ hy,lK,fM (nZ (n:=64) (by omega) (by omega))]
 rw [←e];rfl
theorem B7 (hx:x≤18446744073709551615)(hy:y≤18446744073709551615)(P:cC)(t:aU)(w:a7):(binOp .and t (AI (x:Int)) (AI (y:Int))).run P w= .ok (AI ((x&&& y:Nat):Int)) w:=by
 have e:IntKind.u64.wrap ((pM 64 (x:Int)&&& pM 64 (y:Int)).toNat:Int)=((x&&& y:Nat):Int):=by
  rw [BitVec.toNat_and,pZ hx,pZ hy,lK,fM (Nat.and_lt_two_pow (n:=64) _ (by omega))]
 rw [←e];rfl
theorem xM (hy:y<2^k):(x*2^k)||| y=x*2^k+y:=nat_join k _ _ (by simp) hy
structure Guess (B yn1 yn0 u un q r:Nat):Prop where
 eq:q*yn1+r=u
 top:u*B+un<(q+1)*(yn1*B+yn0)
 qb:q≤B+1
theorem Guess.start {B:Nat}(_hB:0<B)(h1:B≤2*yn1)(hun:un<B)(hu:u<yn1*B+yn0)(h0:yn0<B):Guess B yn1 yn0 u un (u/yn1) (u%yn1):=by
 have f:0<yn1:=by omega
 refine⟨by rw [cM];exact m5 u yn1,?_,?_⟩
 ·have h:u<(u/yn1+1)*yn1:=by
   rw [cM];exact t8 u f
  have o:u*B+B≤((u/yn1+1)*yn1)*B:=by
   have:=eA B (mW h)
   rwa [lE] at this
  rw [cS,←bZ]
  omega
 ·have h:u<(B+2)*yn1:=by
   rw [dV,cM B]
   omega
  have:=(vV f).2 h
  omega
theorem Guess.pos {B:Nat}(hB:0<B)(ht:B≤q∨B*r+un<q*yn0):0<q:=by
 rcases ht with h | h
 ·omega
 ·rcases kF q with e | e
  ·subst e;simp at h
  ·exact e
theorem Guess.step {B:Nat}(h:Guess B yn1 yn0 u un q r)(hun:un<B)(hu:u<yn1*B+yn0)(ht:B≤q∨B*r+un<q*yn0)(hq:0<q):Guess B yn1 yn0 u un (q-1) (r+yn1):=by
 obtain⟨e,ht',qb⟩:=h
 refine⟨?_,?_,by omega⟩
 ·have:q*yn1=(q-1)*yn1+yn1:=by
   conv=>lhs;rw [show q=(q-1)+1 from by omega]
   rw [lE]
  omega
 ·rw [iV hq,cS,←bZ]
  rcases ht with h | h
  ·have f:B*(yn1*B+yn0)≤q*(yn1*B+yn0):=eA _ h
   have o:B*(u+1)≤B*(yn1*B+yn0):=fG _ hu
   rw [cS,←bZ] at f
   rw [qW,cM B u] at o
   have p:q*(yn1*B+yn0)=q*yn1*B+q*yn0:=by rw [cS,bZ]
   have D:B*(yn1*B+yn0)=B*yn1*B+B*yn0:=by rw [cS,bZ]
   omega
  ·have f:(q*yn1+r)*B=u*B:=by rw [e]
   rw [dV,cM r B] at f
   omega
theorem Guess.done {B:Nat}(h:Guess B yn1 yn0 u un q r)(h0:yn0<B)(hd:(q<B∧q*yn0≤B*r+un)∨(q≤B∧B≤r)):q=(u*B+un)/(yn1*B+yn0)∧q*(yn1*B+yn0)≤u*B+un:=by
 obtain⟨e,p,_⟩:=h
 have key:q*yn0≤B*r+un:=by
  rcases hd with⟨_,h⟩ | ⟨o,E⟩
  ·exact h
  ·have F:q*yn0≤B*B:=kE o (by omega)
   have H:B*B≤B*r:=fG _ E
   omega
 have f:q*(yn1*B+yn0)≤u*B+un:=by
  have o:(q*yn1+r)*B=u*B:=by rw [e]
  rw [dV,cM r B] at o
  rw [cS,←bZ]
  omega
 refine⟨?_,f⟩
 have D:0<yn1*B+yn0:=by
  rcases kF (yn1*B+yn0) with h | h
  ·rw [h] at p;simp at p
  ·exact h
 exact (Nat.div_eq_of_lt_le (by rw [cM] at f;rwa [cM]) p).symm
theorem AF {a c r1 r2 r3 r4:Nat}(h1:r1=a%18446744073709551616)(h2:r2=(r1+b)%18446744073709551616)(h3:r3=c%18446744073709551616)(h4:r4=(r2+(18446744073709551616-r3))%18446744073709551616)(h:a+b=c+d)(hd:d≤18446744073709551615):r4=d:=by
 omega
theorem D7 (hy:y≠0)(hs:s+dP y=64):y*2^s<18446744073709551616∧9223372036854775808≤y*2^s:=by
 have p:=rV y
 have q:=yZ hy
 have hb:dP y≠0:=fun h=>hy (sM.1 h)
 have o:y*2^s<2^dP y*2^s:=pF p (m4 s)
 have f:2^(dP y-1)*2^s≤y*2^s:=eA _ q
 rw [←dU,show dP y+s=64 from by omega] at o
 rw [←dU,show dP y-1+s=63 from by omega] at f
 exact⟨o,f⟩
theorem yQ (hs:s+dP y=64)(hyy:yy=y*2^s%18446744073709551616)(h1:yn1=yy/2^32)(hy:y≠0:=by omega):yy=y*2^s∧2147483648≤yn1:=by
 obtain⟨a,b⟩:=D7 hy hs
 rw [fM a] at hyy
 refine⟨hyy,?_⟩
 rw [h1,hyy];omega
theorem T4 (x:Nat):x&&& 4294967295=x%4294967296:=Nat.and_two_pow_sub_one_eq_mod x 32
theorem KV {lo:Nat}(hs:s≤64):lo*2^s=lo/2^(64-s)*18446744073709551616+lo*2^s%18446744073709551616:=by
 have e:lo*2^s/18446744073709551616=lo/2^(64-s):=by
  have h:(18446744073709551616:Nat)=2^(64-s)*2^s:=by rw [←dU,show 64-s+s=64 from by omega]
  conv=>lhs;rw [h]
  exact zP _ _ (m4 s)
 rw [←e,cM (lo*2^s/18446744073709551616)]
 exact (m5 _ _).symm
theorem RQ {lo r46 r49 r50:Nat}(hlt:hi<y)(hlo:lo≤18446744073709551615)(hs:s+dP y=64)(hs64:s≤64)(hyy:yy=y*2^s%18446744073709551616)(h1:yn1=yy/2^32)(h0:yn0=yy&&& 4294967295)(h46:r46=hi*2^s%18446744073709551616)(h49:r49=(64+(18446744073709551616-s))%18446744073709551616)(h50:r50=lo/2^r49)(hu:u=r46||| r50)(h10:un10=lo*2^s%18446744073709551616)(hu1:un1=un10/2^32)(hu0:un0=un10&&& 4294967295):yy=y*2^s∧yy=yn1*4294967296+yn0∧yn0<4294967296∧yn1<4294967296∧u<yy∧un1<4294967296∧un0<4294967296∧un10=un1*4294967296+un0∧(hi*WB+lo)*2^s=u*18446744073709551616+un10:=by
 obtain⟨D,_⟩:=yQ hs hyy h1
 have H:=(D7 (y:=y) (by omega) hs).1
 have h:r49=64-s:=by omega
 have F:hi*2^s<y*2^s:=pF hlt (m4 s)
 have p:r46=hi*2^s:=by rw [h46,fM (by omega)]
 have o:=KV (lo:=lo) hs64
 rw [h] at h50
 have f:r50<2^s:=by
  rw [h50]
  refine tA ?_
  rw [←dU,show 64-s+s=64 from by omega]
  omega
 have eu:u=hi*2^s+r50:=by rw [hu,p,xM f]
 rw [T4] at h0 hu0
 have eU:(hi*WB+lo)*2^s=u*18446744073709551616+un10:=by
  rw [dV,cI,o,eu,←h50,←h10,dV,pE]
  omega
 have q:u<yy:=by
  have E:(hi+1)*2^s≤y*2^s:=eA _ hlt
  rw [lE] at E
  omega
 refine⟨D,by omega,by omega,by omega,q,by omega,by omega,by omega,eU⟩
theorem RR {lo q1 v q0:Nat}(hy:0<y)(e1:yy=y*2^s)(e10:un10=un1*4294967296+un0)(eU:(hi*WB+lo)*2^s=u*18446744073709551616+un10)(hq1:u*4294967296+un1=q1*yy+v)(hq0:v*4294967296+un0=q0*yy+r)(hr:r<yy):(hi*WB+lo)/y=q1*4294967296+q0∧(hi*WB+lo)%y=r/2^s:=by
 have o:=m4 s
 have p:(hi*WB+lo)*2^s=(q1*4294967296+q0)*yy+r:=by
  have D:(q1*4294967296+q0)*yy=(q1*yy)*4294967296+q0*yy:=by rw [dV,pE]
  have q:u*18446744073709551616+un1*4294967296=(u*4294967296+un1)*4294967296:=by rw [dV,bZ]
  rw [eU,e10,D,←iW,q,hq1,dV,iW,hq0,iW]
 have f:0<yy:=by rw [e1];exact lF hy o
 constructor
 ·rw [←zP _ _ o,←e1,p,cM _ yy,o0 f,gC hr,eI]
 ·have h:=vT (2^s) (hi*WB+lo) y
  rw [←e1,p,cM _ yy,Nat.mul_add_mod,fM hr] at h
  rw [h,Nat.mul_div_cancel _ o]
def zK (hi lo y:Nat)(w:a7)(e:dM)(w':a7):Prop:=
 ∃q r:Nat,Hid (q=(hi*WB+lo)/y)∧Hid (r=(hi*WB+lo)%y)∧q≤18446744073709551615∧r<y∧e= .returned (.tuple #[AI (q:Int),AI (r:Int)])∧∃m,w'=w.drewN m
theorem RO {lo:Nat}(hlo:lo≤18446744073709551615)(hy:1≤y)(hyb:y≤18446744073709551615)(w:a7):aQ aM 105 #[AI 0,AI (lo:Int),AI (y:Int)] w (zK 0 lo y w):=by
 have h1:((y:Int)==0)=false:=by simp;omega
 have h2:¬(y:Int)≤0:=by omega
 have h3:(lo:Int)/(y:Int)≤(lo:Int):=Int.ediv_le_self _ (by omega)
 have h4:0≤(lo:Int)/(y:Int):=Int.ediv_nonneg (by omega) (by omega)
 have h5:=Int.emod_nonneg (lo:Int) (b:=(y:Int)) (by omega)
 have h6:=Int.emod_lt_of_pos (lo:Int) (b:=(y:Int)) (by omega)
 go_enter Tryz.func105,Tryz.ntmps105
 go_wp2_with fail
 go_quiet (fail)
 go_wp2_with fail
 go_ret2
 refine⟨lo/y,lo%y,by simp [Hid],by simp [Hid],?_,gB _ hy,by simp,_,rfl⟩
 have:=i8 lo y
 omega
theorem Guess.fin (e:yy=yn1*4294967296+yn0)(h0:yn0<4294967296)(hyy:0<yy)(hu:u<yy)(hun:un<4294967296)(hG:Guess 4294967296 yn1 yn0 u un q r)(hd:(q<4294967296∧q*yn0≤4294967296*r+un)∨(q≤4294967296∧4294967296≤r)):q≤4294967295∧∃v,Hid (u*4294967296+un=q*yy+v)∧v<yy:=by
 obtain⟨a,b⟩:=hG.done h0 hd
 rw [←e] at a b
 refine⟨?_,u*4294967296+un-q*yy,?_,?_⟩
 ·have:q<4294967296:=by
   rw [a]
   refine tA ?_
   have:=eA 4294967296 (mW hu)
   rw [lE] at this
   omega
  omega
 ·show _=_
  omega
 ·have:=t8 (u*4294967296+un) hyy
  rw [←a,cS,eG,cM yy q] at this
  omega
theorem CP {r65 rh:Nat}(hy:0<y)(hu:u≤18446744073709551615)(e1:q=u/y)(e2:r65=q*y%18446744073709551616)(e3:rh=(u+(18446744073709551616-r65))%18446744073709551616):rh=u%y:=by
 have f:=m5 u y
 rw [e1,cM] at e2
 have h:=gB u hy
 generalize y*(u/y)=a at*
 generalize u%y=b at*
 omega
theorem RP {lo:Nat}(hhi:1≤hi)(hlt:hi<y)(hlo:lo≤18446744073709551615)(hyb:y≤18446744073709551615)(w:a7):aQ aM 105 #[AI (hi:Int),AI (lo:Int),AI (y:Int)] w (zK hi lo y w):=by
 have h1:((y:Int)==0)=false:=by simp;omega
 have h2:¬(y:Int)≤(hi:Int):=by omega
 have h3:((hi:Int)==0)=false:=by simp;omega
 go_enter Tryz.func105,Tryz.ntmps105
 go_wp2_with fail
 refine (bits_LeadingZeros64 y hyb _).mono ?_
 rintro e w' ⟨s,hs,hs64,rfl,rfl⟩
 go_upto_block 0 with (first
  | ((with_reducible refine dE (some 39) ?_);refine dS rfl rfl rfl rfl rfl (oA hs64) ?_;intro yy hyy hyyb)
  | ((with_reducible refine dE (some 41) ?_);refine dS rfl rfl rfl rfl rfl (mE (s:=32) (by omega)) ?_;intro yn1 hyn1 hyn1b)
  | ((with_reducible refine dE (some 43) ?_);refine dS rfl rfl rfl rfl rfl (B7 (y:=4294967295) hyyb (by omega)) ?_ (hf:=(by have:=Nat.and_le_left (n:=yy) (m:=4294967295);omega));intro yn0 hyn0 hyn0b)
  | ((with_reducible refine dE (some 46) ?_);refine dS rfl rfl rfl rfl rfl (oA hs64) ?_;intro r46 h46 hb46)
  | ((with_reducible refine dE (some 49) ?_);refine dS rfl rfl rfl rfl rfl (o8 (x:=64) (y:=s) (by omega)) ?_;intro r49 h49 hb49)
  | ((with_reducible refine dE (some 50) ?_);refine dS rfl rfl rfl rfl rfl (mE (s:=r49) (by rw [h49.out];omega)) ?_ (hf:=(by have:=i8 lo (2^r49);omega));intro r50 h50 hb50)
  | ((with_reducible refine dE (some 51) ?_);refine dS rfl rfl rfl rfl rfl (rL hb46 hb50) ?_ (hf:=(by have:=nZ (n:=64) (x:=r46) (y:=r50) (by omega) (by omega);omega));intro u hu hub)
  | ((with_reducible refine dE (some 54) ?_);refine dS rfl rfl rfl rfl rfl (oA hs64) ?_;intro un10 h10 hb10)
  | ((with_reducible refine dE (some 56) ?_);refine dS rfl rfl rfl rfl rfl (mE (s:=32) (by omega)) ?_;intro un1 hun1 hun1b)
  | ((with_reducible refine dE (some 58) ?_);refine dS rfl rfl rfl rfl rfl (B7 (y:=4294967295) hb10 (by omega)) ?_ (hf:=(by have:=Nat.and_le_left (n:=un10) (m:=4294967295);omega));intro un0 hun0 hun0b)
  | ((with_reducible refine dE (some 61) ?_);refine dS rfl rfl rfl rfl rfl (B6 (by have:=(yQ hs.out hyy.out hyn1.out).2;omega) hub) ?_ (hf:=(by have:=i8 u yn1;omega));intro q1 hq1 hq1b)
  | ((with_reducible refine dE (some 65) ?_);refine dS rfl rfl rfl rfl rfl pP ?_;intro r65 h65 hb65)
  | ((with_reducible refine dE (some 66) ?_);refine dS rfl rfl rfl rfl rfl (o8 (by omega)) ?_;intro rh hrh hrhb))
 have hN:=RQ hlt hlo hs.out hs64 hyy.out hyn1.out hyn0.out h46.out h49.out h50.out hu.out h10.out hun1.out hun0.out
 have hyn1lo:=(yQ hs.out hyy.out hyn1.out).2
 obtain⟨n1,n2,n3,n4,n5,n6,n7,n8,n9⟩:=hN
 have N1:=Lib.hid n1
 have N2:=Lib.hid n2
 have N3:=Lib.hid n3
 have N5:=Lib.hid n5
 have N6:=Lib.hid n6
 have NL:=Lib.hid hyn1lo
 have hyylo:0<yy:=by omega
 have hyn1hi:(yn1:Int)≤4294967295:=by omega
 have hyn1pos:0<yn1:=by omega
 have hun1hi:(un1:Int)≤4294967295:=by omega
 have hyn0hi:(yn0:Int)≤4294967295:=by omega
 have hun0hi:(un0:Int)≤4294967295:=by omega
 have N8:=Lib.hid n8
 have N9:=Lib.hid n9
 have hq1':Hid (q1=u/yn1):=hq1
 have hrh':Hid (rh=u%yn1):=CP (by omega) hub hq1.out h65.out hrh.out
 clear n1 n2 n3 n4 n5 n6 n7 n8 n9 hyn1lo hyy hyn1 hyn0 h46 h49 h50 hu h10 hun1 hun0 h65 hrh hq1
 clear hb46 hb49 hb50 hb65 hrhb hq1b h1 h2 h3
 go_cut [15,16] (fun a b wc=>∃q r v:Nat,a= AI (q:Int)∧b= AI (r:Int)∧q≤4294967295∧Hid (u*4294967296+un1=q*yy+v)∧v<yy∧w=wc)
 case first=>
  have HG0:=Lib.hid (Guess.start (B:=4294967296) (yn1:=yn1) (yn0:=yn0) (u:=u) (un:=un1) (by omega) (by have:=NL.out;omega) N6.out (by rw [←N2.out];exact N5.out) N3.out)
  refine wp_block ?_
  go_wp2_with fail
  go_loop [15,16] (fun a b=>∃q r:Nat,a= AI (q:Int)∧b= AI (r:Int)∧q≤4294967297∧r≤4294967295∧Hid (Guess 4294967296 yn1 yn0 u un1 q r)) (fun a b=>(intOf a).toNat)
  case atStart=>exact⟨q1,rh,rfl,rfl,by have:=HG0.out.qb;rw [hq1'.out];omega,by rw [hrh'.out];have:=gB u (show 0<yn1 by omega);omega,by rw [hq1'.out,hrh'.out];exact HG0⟩
  case round=>
   obtain⟨q,r,rfl,rfl,hq,hr,hG⟩:=hrel
   by_cases hqB:(4294967296:Int)≤(q:Int)
   ·have HS:=Lib.hid (hG.out.step N6.out (by rw [←N2.out];exact N5.out) (bS (by omega)) (by omega))
    have HQ:=Lib.hid hq
    by_cases hrB:(4294967296:Int)≤(r:Int)+(yn1:Int)
    ·go_upto_region 20 with (fail)
     have HQB:=Lib.hid hqB
     clear hqB
     go_wp2_with fail
     go_meet
     case rel=>
      obtain⟨a,v,b,c⟩:=Guess.fin N2.out N3.out hyylo N5.out N6.out HS.out (bW ⟨by have:=HQB.out;omega,by omega⟩)
      exact⟨q-1,r+yn1,v,eP (h:=(by have:=HQB.out;omega)),eP,a,b,c,rfl⟩
    ·go_upto_region 20 with (fail)
     have HQB:=Lib.hid hqB
     clear hqB
     go_wp2_with fail
     go_round
     case rel=>exact⟨q-1,r+yn1,eP (h:=(by have:=HQB.out;omega)),eP,by omega,by omega,HS⟩
     case measure=>have:=HQB.out;simp [intOf];omega
   ·have hp1:(q:Int)*(yn0:Int)≤18446744065119617025:=by
     have h:q*yn0≤4294967295*4294967295:=kE (by omega) (by omega)
     rw [←jR];omega
    have hp0:0≤(q:Int)*(yn0:Int):=Int.mul_nonneg (by omega) (by omega)
    by_cases hT:4294967296*r+un1<q*yn0
    ·have hTi:4294967296*(r:Int)+(un1:Int)<(q:Int)*(yn0:Int):=by rw [←jR];omega
     have hqp:=Guess.pos (B:=4294967296) (r:=r) (un:=un1) (by omega) (bW hT)
     have HS:=Lib.hid (hG.out.step N6.out (by rw [←N2.out];exact N5.out) (bW hT) hqp)
     clear hT
     by_cases hrB:(4294967296:Int)≤(r:Int)+(yn1:Int)
     ·go_wp2_with fail
      go_meet
      case rel=>
       obtain⟨a,v,b,c⟩:=Guess.fin N2.out N3.out hyylo N5.out N6.out HS.out (bW ⟨by omega,by omega⟩)
       exact⟨q-1,r+yn1,v,eP,eP,a,b,c,rfl⟩
     ·go_wp2_with fail
      go_round
      case rel=>exact⟨q-1,r+yn1,eP,eP,by omega,by omega,HS⟩
      case measure=>simp [intOf];omega
    ·have hTi:¬4294967296*(r:Int)+(un1:Int)<(q:Int)*(yn0:Int):=by rw [←jR];omega
     have HT:=Lib.hid (show q*yn0≤4294967296*r+un1 by omega)
     clear hT
     go_wp2_with fail
     go_meet
     case rel=>
      obtain⟨a,v,b,c⟩:=Guess.fin N2.out N3.out hyylo N5.out N6.out hG.out (bS ⟨by omega,HT.out⟩)
      exact⟨q,r,v,rfl,rfl,a,b,c,rfl⟩
 case rest=>
  obtain⟨qa,ra,v,rfl,rfl,hqa,hv,hvy,rfl⟩:=hcut
  clear hq1' hrh'
  go_upto_block 2 with (first
   | ((with_reducible refine dE (some 87) ?_);refine dS rfl rfl rfl rfl rfl pP ?_;intro r87 h87 hb87)
   | ((with_reducible refine dE (some 89) ?_);refine dS rfl rfl rfl rfl rfl wU ?_;intro r89 h89 hb89)
   | ((with_reducible refine dE (some 92) ?_);refine dS rfl rfl rfl rfl rfl pP ?_;intro r92 h92 hb92)
   | ((with_reducible refine dE (some 93) ?_);refine dS rfl rfl rfl rfl rfl (o8 (by omega)) ?_;intro v' hv' hbv';obtain rfl:v'=v:=AF h87.out h89.out h92.out hv'.out hv.out (by omega))
   | ((with_reducible refine dE (some 96) ?_);refine dS rfl rfl rfl rfl rfl (B6 (by omega) (by omega)) ?_ (hf:=(by have:=i8 v' yn1;omega));intro q2 hq2 hq2b)
   | ((with_reducible refine dE (some 100) ?_);refine dS rfl rfl rfl rfl rfl pP ?_;intro r100 h100 hb100)
   | ((with_reducible refine dE (some 101) ?_);refine dS rfl rfl rfl rfl rfl (o8 (by omega)) ?_;intro rh2 hrh2 hrhb2))
  have hq2':Hid (q2=v'/yn1):=hq2
  have hrh2':Hid (rh2=v'%yn1):=CP (by omega) (by omega) hq2.out h100.out hrh2.out
  have NV:=Lib.hid hvy
  have N7:=Lib.hid (show un0<4294967296 by omega)
  clear hvy hrh2 hq2 h100 h87 h89 h92 hv' hb87 hb89 hb92 hbv' hb100 hrhb2 hq2b
  go_cut [18,16] (fun a b wc=>∃q r v:Nat,a= AI (q:Int)∧b= AI (r:Int)∧q≤4294967295∧Hid (v'*4294967296+un0=q*yy+v)∧v<yy∧w=wc)
  case first=>
   have HG0:=Lib.hid (Guess.start (B:=4294967296) (yn1:=yn1) (yn0:=yn0) (u:=v') (un:=un0) (by omega) (by have:=NL.out;omega) N7.out (by rw [←N2.out];exact NV.out) N3.out)
   refine wp_block ?_
   go_wp2_with fail
   go_loop [18,16] (fun a b=>∃q r:Nat,a= AI (q:Int)∧b= AI (r:Int)∧q≤4294967297∧r≤4294967295∧Hid (Guess 4294967296 yn1 yn0 v' un0 q r)) (fun a b=>(intOf a).toNat)
   case atStart=>exact⟨q2,rh2,rfl,rfl,by have:=HG0.out.qb;rw [hq2'.out];omega,by rw [hrh2'.out];have:=gB v' (show 0<yn1 by omega);omega,by rw [hq2'.out,hrh2'.out];exact HG0⟩
   case round=>
    obtain⟨q,r,rfl,rfl,hq,hr,hG⟩:=hrel
    by_cases hqB:(4294967296:Int)≤(q:Int)
    ·have HS:=Lib.hid (hG.out.step N7.out (by rw [←N2.out];exact NV.out) (bS (by omega)) (by omega))
     have HQ:=Lib.hid hq
     by_cases hrB:(4294967296:Int)≤(r:Int)+(yn1:Int)
     ·go_upto_region 27 with (fail)
      have HQB:=Lib.hid hqB
      clear hqB
      go_wp2_with fail
      go_meet
      case rel=>
       obtain⟨a,v,b,c⟩:=Guess.fin N2.out N3.out hyylo NV.out N7.out HS.out (bW ⟨by have:=HQB.out;omega,by omega⟩)
       exact⟨q-1,r+yn1,v,eP (h:=(by have:=HQB.out;omega)),eP,a,b,c,rfl⟩
     ·go_upto_region 27 with (fail)
      have HQB:=Lib.hid hqB
      clear hqB
      go_wp2_with fail
      go_round
      case rel=>exact⟨q-1,r+yn1,eP (h:=(by have:=HQB.out;omega)),eP,by omega,by omega,HS⟩
      case measure=>have:=HQB.out;simp [intOf];omega
    ·have hp1:(q:Int)*(yn0:Int)≤18446744065119617025:=by
      have h:q*yn0≤4294967295*4294967295:=kE (by omega) (by omega)
      rw [←jR];omega
     have hp0:0≤(q:Int)*(yn0:Int):=Int.mul_nonneg (by omega) (by omega)
     by_cases hT:4294967296*r+un0<q*yn0
     ·have hTi:4294967296*(r:Int)+(un0:Int)<(q:Int)*(yn0:Int):=by rw [←jR];omega
      have hqp:=Guess.pos (B:=4294967296) (r:=r) (un:=un0) (by omega) (bW hT)
      have HS:=Lib.hid (hG.out.step N7.out (by rw [←N2.out];exact NV.out) (bW hT) hqp)
      clear hT
      by_cases hrB:(4294967296:Int)≤(r:Int)+(yn1:Int)
      ·go_wp2_with fail
       go_meet
       case rel=>
        obtain⟨a,v,b,c⟩:=Guess.fin N2.out N3.out hyylo NV.out N7.out HS.out (bW ⟨by omega,by omega⟩)
        exact⟨q-1,r+yn1,v,eP,eP,a,b,c,rfl⟩
      ·go_wp2_with fail
       go_round
       case rel=>exact⟨q-1,r+yn1,eP,eP,by omega,by omega,HS⟩
       case measure=>simp [intOf];omega
     ·have hTi:¬4294967296*(r:Int)+(un0:Int)<(q:Int)*(yn0:Int):=by rw [←jR];omega
      have HT:=Lib.hid (show q*yn0≤4294967296*r+un0 by omega)
      clear hT
      go_wp2_with fail
      go_meet
      case rel=>
       obtain⟨a,v,b,c⟩:=Guess.fin N2.out N3.out hyylo NV.out N7.out hG.out (bS ⟨by omega,HT.out⟩)
       exact⟨q,r,v,rfl,rfl,a,b,c,rfl⟩
  case rest=>
   obtain⟨qb,rb,r,rfl,rfl,hqb,hr,hry,rfl⟩:=hcut
   clear hq2' hrh2'
   have HR:=Lib.hid hry
   clear hry
   go_wp2_with (first
    | ((with_reducible refine dE (some 126) ?_);refine dS rfl rfl rfl rfl rfl pP ?_;intro r126 h126 hb126)
    | ((with_reducible refine dE (some 128) ?_);refine dS rfl rfl rfl rfl rfl wU ?_;intro r128 h128 hb128)
    | ((with_reducible refine dE (some 131) ?_);refine dS rfl rfl rfl rfl rfl pP ?_;intro r131 h131 hb131)
    | ((with_reducible refine dE (some 132) ?_);refine dS rfl rfl rfl rfl rfl (o8 (by omega)) ?_;intro r' hr' hbr';obtain rfl:r'=r:=AF h126.out h128.out h131.out hr'.out hr.out (by have:=HR.out;omega))
    | ((with_reducible refine dE (some 134) ?_);refine dS rfl rfl rfl rfl rfl (mE hs64) ?_ (hf:=(by have:=i8 r' (2^s);omega));intro rr hrr hrrb))
   go_ret2
   obtain⟨e1,e2⟩:=RR (by omega) N1.out N8.out N9.out hv.out hr.out HR.out
   have hy0:0<y:=by omega
   refine⟨_,_,e1.symm,e2.symm,by omega,?_,?_,0,rfl⟩
   ·rw [←e2];exact gB _ hy0
   ·rw [←hrr.out];simp
theorem GR {lo:Nat}(hlt:hi<y)(hlo:lo≤18446744073709551615)(hyb:y≤18446744073709551615)(w:a7):aQ aM 105 #[AI (hi:Int),AI (lo:Int),AI (y:Int)] w (zK hi lo y w):=by
 rcases kF hi with e | e
 ·subst e;exact RO hlo (by omega) hyb w
 ·exact RP e hlt hlo hyb w
end
section
def nb (b:Nat):List Nat→Nat
 | []=>0
 | x::r=>x+b*nb b r
def Wfb (b:Nat)(xs:List Nat):Prop:=∀x∈xs,x<b
theorem uB (b:Nat):nb b []=0:=rfl
theorem kV (b x:Nat)(r:List Nat):nb b (x::r)=x+b*nb b r:=rfl
theorem mG (xs:List Nat):nv xs=nb WB xs:=by
 induction xs with
 | nil=>rfl
 | cons x r ih=>rw [nH,kV,ih]
theorem xU (b:Nat)(xs ys:List Nat):nb b (xs++ys)=nb b xs+b^xs.length*nb b ys:=by
 induction xs with
 | nil=>simp [nb]
 | cons x r ih=>
  simp only [pJ,nb,ih,gD,dJ]
  rw [cS,←bZ,cM b (b^r.length),iW]
theorem nI (h:Wfb b xs):nb b xs<b^xs.length:=by
 induction xs with
 | nil=>simp [nb]
 | cons x r ih=>
  have hx:x<b:=h x (by simp)
  have hr:=ih (fun y hy=>h y (by simp [hy]))
  simp only [nb,gD,dJ]
  have:b*nb b r+b≤b*b^r.length:=by
   have:=fG b (mW hr)
   rw [qW] at this;exact this
  rw [cM (b^r.length)]
  omega
theorem xR (b n:Nat):nb b (dL n 0)=0:=by
 induction n with
 | zero=>rfl
 | succ n ih=>simp [I9,nb,ih]
theorem DB (b:Nat)(xs:List Nat)(x:Nat):nb b (xs++ [x])=nb b xs+b^xs.length*x:=by
 rw [xU];simp [nb]
def nR (b:Nat):Nat→Nat→List Nat
 | 0,_=> []
 | f+1,n=>if n=0 then [] else n%b::nR b f (n/b)
def db (b n:Nat):List Nat:=nR b n n
theorem G3 (hb:2≤b)(f:Nat):∀(g n:Nat),n≤f→n≤g→nR b f n=nR b g n:=by
 induction f with
 | zero=>
  intro g n h _
  have:n=0:=by omega
  subst this
  cases g <;> simp [nR]
 | succ f ih=>
  intro g n h hg
  by_cases h0:n=0
  ·subst h0;cases g <;> simp [nR]
  ·cases g with
   | zero=>omega
   | succ g=>
    have hlt:n/b<n:=qY (by omega) (by omega)
    simp only [nR,h0,if_false]
    rw [ih g (n/b) (by omega) (by omega)]
theorem mO (b:Nat):db b 0= []:=rfl
theorem oU (hb:2≤b)(h:n≠0):db b n=n%b::db b (n/b):=by
 have f:n/b<n:=qY (by omega) (by omega)
 unfold db
 conv=>lhs;rw [G3 hb n (n+1) n (aS _) (by omega)]
 simp only [nR,h,if_false]
 rw [G3 hb n (n/b) (n/b) (by omega) (aS _)]
theorem yU (hb:2≤b){p:Nat→Prop}(h0:p 0)(hs:∀n,n≠0→p (n/b)→p n)(n:Nat):p n:=by
 induction n using qV with
 | ind n ih=>
  by_cases h:n=0
  ·subst h;exact h0
  ·exact hs n h (ih _ (qY (by omega) (by omega)))
theorem j1 (hb:2≤b)(n:Nat):nb b (db b n)=n:=by
 induction n using yU hb with
 | h0=>rfl
 | hs n h ih=>rw [oU hb h,kV,ih];exact jN n b
theorem qL (hb:2≤b)(n:Nat):Wfb b (db b n):=by
 induction n using yU hb with
 | h0=>intro x hx;cases hx
 | hs n h ih=>
  rw [oU hb h]
  intro x hx
  cases o1.1 hx with
  | inl e=>subst e;exact gB _ (by omega)
  | inr e=>exact ih x e
theorem RX (hb:2≤b):db b n= []↔n=0:=by
 constructor
 ·intro h;rw [←j1 hb n,h];rfl
 ·rintro rfl;rfl
theorem s7 (hb:2≤b):(db b n).length=0↔n=0:=by
 rw [zT];exact RX hb
theorem G2 {b:Nat}(hb:2≤b):∀{xs:List Nat},Wfb b xs→(∀h:xs≠ [],xs.getLast h≠0)→db b (nb b xs)=xs
 | [],_,_=>rfl
 | [x],hw,ht=>by
  have hx:x<b:=hw x (by simp)
  have q:x≠0:=ht (by simp)
  simp only [nb,fX,eI]
  rw [oU hb q,fM hx,gC hx,mO]
 | x::y::r,hw,ht=>by
  have f:0<b:=by omega
  have hx:x<b:=hw x (by simp)
  have ih:=G2 hb (xs:=y::r) (fun z p=>hw z (by simp [p])) (fun h=>by have:=ht (by simp);simpa [List.getLast_cons] using this)
  have o:nb b (y::r)≠0:=by
   intro e
   rw [e,mO] at ih
   cases ih
  have hn:nb b (x::y::r)≠0:=by
   rw [kV]
   have:0<b*nb b (y::r):=lF f (by omega)
   omega
  rw [oU hb hn,kV,tB,fM hx,qZ _ _ f,gC hx,eX,ih]
theorem G1 (hb:2≤b)(hw:Wfb b xs)(ht:xs.length=0∨xs.getD (xs.length-1) 0≠0):db b (nb b xs)=xs:=by
 refine G2 hb hw (fun h=>?_)
 have hl:xs.length≠0:=by simpa using h
 rcases ht with h' | h'
 ·exact absurd h' hl
 ·rw [IC]
  have:xs.length-1<xs.length:=by omega
  rwa [bE,cA this,lV] at h'
theorem G0 (hb:2≤b)(n:Nat):(db b n).length=0∨(db b n).getD ((db b n).length-1) 0≠0:=by
 induction n using yU hb with
 | h0=>exact bS rfl
 | hs n h ih=>
  right
  rw [oU hb h]
  rcases ih with h' | h'
  ·have h2:n/b=0:=(s7 hb).1 h'
   have h3:n<b:=(Nat.div_eq_zero_iff.1 h2).resolve_left (by omega)
   rw [h2,mO]
   simp only [List.length_singleton,Nat.sub_self]
   show n%b≠0
   rw [fM h3];exact h
  ·have hl:(db b (n/b)).length≠0:=fun e=>by
    rw [zT.1 e] at h';simp at h'
   obtain⟨k,hk⟩:∃k,(db b (n/b)).length=k+1:=⟨_,(Nat.succ_pred_eq_of_ne_zero hl).symm⟩
   have e:(db b (n/b)).length-1=k:=by omega
   rw [e] at h'
   rw [gD,hk,Nat.add_sub_cancel]
   simpa using h'
theorem jM (h:Wfb b xs)(k:Nat):Wfb b (xs.take k):=fun x hx=>h x (vY hx)
theorem zA (h:Wfb b xs)(k:Nat):Wfb b (xs.drop k):=fun x hx=>h x (zS hx)
theorem TI (h:Wfb b xs)(k:Wfb b ys):Wfb b (xs++ys):=fun x hx=>by
 rcases pH.1 hx with e | e
 ·exact h x e
 ·exact k x e
theorem j8 (h:Wfb b xs)(i:Nat)(hb:0<b:=by decide):xs.getD i 0<b:=by
 by_cases hi:i<xs.length
 ·rw [bE,cA hi];exact h _ (rB hi)
 ·rw [bE,gM (by omega)];exact hb
theorem TH (b:Nat):Wfb b []:=fun x hx=>by cases hx
theorem oY (hb:0<b)(n:Nat):Wfb b (dL n 0):=fun x hx=>by rw [(zR.1 hx).2];exact hb
theorem TG (h:x<b):Wfb b [x]:=fun y f=>by rw [zQ.1 f];exact h
theorem iM (h:Wfb b xs)(i:Nat)(hx:x<b:=by omega):Wfb b (xs.set i x):=fun y f=>by
 rcases IB f with e | e
 ·exact h y e
 ·rw [e];exact hx
theorem gX (b:Nat)(xs:List Nat)(k:Nat)(h:k<xs.length):nb b (xs.take (k+1))=nb b (xs.take k)+b^k*xs.getD k 0:=by
 rw [rN xs k h 0,DB,dK,gL (by omega)]
theorem lO (b:Nat)(xs:List Nat)(k:Nat)(h:k≤xs.length:=by omega):nb b xs=nb b (xs.take k)+b^k*nb b (xs.drop k):=by
 have:=xU b (xs.take k) (xs.drop k)
 rw [r9,dK,gL h] at this
 exact this
theorem xS (b:Nat)(xs:List Nat)(k:Nat)(h:k<xs.length)(h0:xs.getD k 0=0):nb b (xs.take (k+1))=nb b (xs.take k):=by
 rw [gX b xs k h,h0];simp
theorem q6 (h:Wfb b xs)(k:Nat)(hb:0<b:=by decide):nb b (xs.take k)<b^k:=by
 have f:=nI (jM h k)
 have o:b^(xs.take k).length≤b^k:=i6 hb (by rw [dK];omega)
 omega
theorem uW (hb:2≤b)(hw:Wfb b xs)(hk:k≤xs.length)(hv:nb b (xs.take k)=nb b xs)(ht:k=0∨xs.getD (k-1) 0≠0):db b (nb b xs)=xs.take k:=by
 have hl:(xs.take k).length=k:=by rw [dK];omega
 rw [←hv]
 refine G1 hb (jM hw k) ?_
 rw [hl]
 rcases ht with h | h
 ·exact bS h
 ·by_cases f:k=0
  ·exact bS f
  ·refine bW ?_
   rw [bE,jO,if_pos (by omega),←bE]
   exact h
theorem uM (hb : 2 ≤ b)(h : n < b ^ k): (db b n).length ≤ k := by
  induction k generalizing n with
  | zero => have : n = 0 := by simp at h; omega
            subst this; simp [mO]
  | succ k ih =>
    by_cases h0 : n = 0
    · subst h0; simp [mO]
    · rw [oU hb h0, gD]
      have : n / b < b ^ k := by rw [vV (by omega)]; rwa [← dJ]
      have := ih this
      omega
theorem NE (hb:2≤b)(n:Nat):n<b^(db b n).length:=by
 have:=nI (qL hb n)
 rwa [j1 hb] at this
theorem M4 (hb:2≤b)(h:n≠0):b^((db b n).length-1)≤n:=by
 refine qX (fun f=>?_)
 have o:=uM hb f
 have p:(db b n).length≠0:=fun e=>h ((s7 hb).1 e)
 omega
theorem uL (hb:2≤b)(h:x≤y):(db b x).length≤(db b y).length:=uM hb (lG h (NE hb y))
theorem yT {b:Nat}(hb:2≤b):∀{xs:List Nat}{m:Nat},Wfb b xs→m=(db b (nb b xs)).length→db b (nb b xs)=xs.take m
 | [],m,_,h=>by simp [nb,mO]
 | x::r,m,hw,h=>by
  have hx:x<b:=hw x (by simp)
  by_cases f:nb b (x::r)=0
  ·rw [f,mO] at h⊢
   subst h;rfl
  ·have p:nb b (x::r)/b=nb b r:=by rw [kV,qZ _ _ (by omega),gC hx,eX]
   have hm:nb b (x::r)%b=x:=by rw [kV,tB,fM hx]
   rw [oU hb f,p,hm] at h⊢
   obtain⟨k,rfl⟩:∃k,m=k+1:=⟨m-1,by rw [h,gD];rfl⟩
   rw [gD] at h
   rw [vW,←yT hb (fun y o=>hw y (by simp [o])) (by omega)]
theorem D8 (hb:0<b)(hx:Wfb b xs)(hkx:k<xs.length)(hky:k<ys.length)(h:xs.getD k 0<ys.getD k 0):nb b (xs.take (k+1))<nb b (ys.take (k+1)):=by
 rw [gX b xs k hkx,gX b ys k hky]
 have f:=q6 hx k (hb:=hb)
 have o:b^k*xs.getD k 0+b^k≤b^k*ys.getD k 0:=by
  have:=fG (b^k) (mW h)
  rwa [qW] at this
 omega
theorem S7 (hkx:k<xs.length)(hky:k<ys.length)(h:xs.getD k 0=ys.getD k 0):dY (nb b (xs.take (k+1))) (nb b (ys.take (k+1)))=dY (nb b (xs.take k)) (nb b (ys.take k)):=by
 rw [gX b xs k hkx,gX b ys k hky,h]
 unfold dY
 simp only [I8,I7]
theorem DV (hb:2≤b)(h:(db b x).length<(db b y).length):x<y:=by
 refine t7 (fun f=>?_)
 have:=uL hb f
 omega
theorem B3 (hw:Wf xs)(h:xs.length=0∨WB^(xs.length-1)≤nv xs):wd (nv xs)=xs:=by
 have f:(wd (nv xs)).length=xs.length:=by
  have p:=gP hw
  rcases h with h | h
  ·omega
  ·have o:WB^(xs.length-1)<WB^(wd (nv xs)).length:=lG h (nK _)
   have:=(zO (by decide:1<WB)).1 o
   omega
 rw [mD hw f.symm,List.take_length]
theorem DC (b:Nat)(es:List Nat)(p m:Nat):nb b ((es.drop p).take (m+1))=es.getD p 0+b*nb b ((es.drop (p+1)).take m):=by
 by_cases h:p<es.length
 ·rw [mZ h,vW,kV,bE,cA h];rfl
 ·rw [List.drop_eq_nil_of_le (by omega),List.drop_eq_nil_of_le (by omega),bE,gM (by omega)]
  simp [nb]
theorem DA (b:Nat)(es:List Nat)(p m:Nat)(h:p≤es.length):nb b (es.take (p+m))=nb b (es.take p)+b^p*nb b ((es.drop p).take m):=by
 have e:es.take (p+m)=es.take p++(es.drop p).take m:=by rw [List.take_add]
 rw [e,xU,dK,gL h]
theorem yA (h:i<k):(xs.take k).getD i 0=xs.getD i 0:=by
 simp only [bE,jO,if_pos h]
theorem qD (h:i<l.length)(x:Nat):(l.set i x).getD i 0=x:=by simp [bE,h]
theorem getD_set_ne (h:i≠j)(x:Nat):(l.set i x).getD j 0=l.getD j 0:=by simp [bE,List.getElem?_set_ne h]
theorem oI (b:Nat)(h:i<l.length)(x:Nat):nb b ((l.set i x).take (i+1))=nb b (l.take i)+b^i*x:=by
 rw [gX b _ i (by rw [List.length_set];exact h),qD h,List.take_set_of_le (aS i)]
theorem rT (b:Nat):∀{l:List Nat}{k:Nat},k<l.length→∀x,nb b (l.set k x)+b^k*l.getD k 0=nb b l+b^k*x
 | y::r,0,_,x=>by simp [nb];omega
 | y::r,k+1,h,x=>by
  have ih:=rT b (l:=r) (k:=k) (by simpa using h) x
  simp only [List.set_cons_succ,kV,List.getD_cons_succ,dJ]
  have e:b*(nb b (r.set k x)+b^k*r.getD k 0)=b*(nb b r+b^k*x):=by rw [ih]
  simp only [cS,←bZ,cM b (b^k)] at e
  omega
theorem nG (h:k<l.length)(x:Nat):nv (l.set k x)+WB^k*l.getD k 0=nv l+WB^k*x:=by
 rw [mG,mG];exact rT WB h x
theorem xP (h:i<l.length)(x:Nat):nv ((l.set i x).take (i+1))=nv (l.take i)+WB^i*x:=by
 rw [eE _ i (by rw [List.length_set];exact h),qD h,List.take_set_of_le (aS i)]
def jS (ds:List Nat)(i t:Nat):Nat:=nb 65536 ((ds.drop (max i (4*t))).take (4*t+4-max i (4*t)))
theorem IZ:jS ds j (j/4)=ds.getD j 0+65536*jS ds (j+1) (j/4):=by
 unfold jS
 have h:max j (4*(j/4))=j:=by omega
 have f:max (j+1) (4*(j/4))=j+1:=by omega
 rw [h,f,show 4*(j/4)+4-j=(4*(j/4)+4-(j+1))+1 from by omega,DC]
theorem J0 {t:Nat}(h:t≠j/4):jS ds j t=jS ds (j+1) t:=by
 unfold jS
 rcases i7 t (j/4) with f | f
 ·rw [show 4*t+4-max j (4*t)=0 from by omega,show 4*t+4-max (j+1) (4*t)=0 from by omega];simp
 ·rw [show max j (4*t)=max (j+1) (4*t) from by omega]
theorem AE (hw:Wfb 65536 ds)(i t:Nat):jS ds i t<WB:=by
 unfold jS
 have f:=q6 (zA hw (max i (4*t))) (4*t+4-max i (4*t)) (hb:=(by omega))
 have o:65536^(4*t+4-max i (4*t))≤65536^4:=i6 (by omega) (by omega)
 have h:WB=65536^4:=by decide
 omega
theorem J1 (hl:∀t,t<l.length→l.getD t 0=jS ds 0 t)(hn:ds.length≤4*l.length)(hm:4*l.length<ds.length+4):nv l=nb 65536 ds:=by
 have key:∀t,t≤l.length→nv (l.take t)=nb 65536 (ds.take (4*t)):=by
  intro t
  induction t with
  | zero=>intro _;rfl
  | succ t ih=>
   intro ht
   rw [eE l t (by omega),ih (by omega),hl t (by omega),show 4*(t+1)=4*t+4 from by omega,DA 65536 ds (4*t) 4 (by omega)]
   unfold jS
   rw [show max 0 (4*t)=4*t from by omega,show 4*t+4-4*t=4 from by omega,show WB=65536^4 from by decide,←Nat.pow_mul]
 have h:=key l.length (aS _)
 rwa [List.take_length,List.take_of_length_le hn] at h
end
section
open Go.RowKit
theorem iG:(Tryz.prog.info? 36).map (fun i=>(i.zero,i.size,i.bytes))=some (some (AI 0),1,8):=by kernel_rfl
theorem wY:(Tryz.prog.info? 36).map (·.size)=some 1:=by kernel_rfl
def j9 (w:a7)(m:Nat)(e:dM)(w':a7):Prop:=
 ∃A n cap,e= .returned (AT A n cap)∧Hid (n=(wd m).length)∧Rd w' A n cap (wd m)∧Own w' w.heap.size 36 1 A n cap ((wd m).map aY)∧Ext w w'
theorem pA (hg:w.heap.size≤g)(hb:Bk w' g 36 (ys.map aY))(hl:ys.length=cap)(hn:n≤cap)(hc:cap≤maxLen)(hy:ys.take n=wd m)(hx:Ext w w'):j9 w m (.returned (AT (some ⟨g,0,none⟩) n cap)) w':=by
 have f:n=(wd m).length:=by rw [←hy,dK];omega
 have h:Own w' w.heap.size 36 1 (some ⟨g,0,none⟩) n cap ((wd m).map aY):=
  Own.mk_ hg hb hn hc (by simpa using hl) (by rw [eG,←kG,hy])
 exact⟨_,_,_,rfl,f,h.rd (nW m),h,hx⟩
theorem TP (hm:m=0)(hx:Ext w w'):j9 w m (.returned (AT none 0 0)) w':=by
 subst hm
 exact⟨none,0,0,rfl,rfl,Rd.nil w',Own.nil w' _ _ _,hx⟩
def TM (xs:List Nat)(n:Nat)(w:a7)(e:dM)(w':a7):Prop:=
 ∃m:Nat,Hid (m=(wd (nv xs)).length)∧m≤n∧e= .returned (v4 (m:Int))∧w=w'
theorem jG (hx:Rd w A n cap xs)(hl:n≤1099511627776:=by omega):aQ aM 83 #[AT A n cap] w (TM xs n w):=by
 have hlen:=Lib.hid hx.len
 go_enter Tryz.func83,Tryz.ntmps83
 go_wp2_with fail
 go_loop [3] (fun u=>∃k:Nat,k≤n∧u= v4 (k:Int)∧nv (xs.take k)=nv xs) (fun u=>(intOf u).toNat)
 case atStart=>exact⟨n,aS _,rfl,by rw [←hlen.out,List.take_length]⟩
 case round=>
  obtain⟨k,hk,rfl,hv⟩:=hrel
  have HV:=Lib.hid hv
  clear hv
  by_cases h0:0<k
  ·obtain⟨a,x,rfl,hxk,hxb,hc⟩:=hx.get (i:=k-1) (by omega)
   by_cases hz:x=0
   ·subst hz
    go_wp2_with fail
    go_round
    case rel=>
     refine⟨k-1,by omega,by congr 1;omega,?_⟩
     rw [←HV.out,←oH xs (k-1) (by rw [hlen.out];omega) hxk.out,iV h0]
    case measure=>simp [intOf];omega
   ·have hzb:((x:Int)==0)=false:=by simp;omega
    go_wp2_with fail
    go_ret
    refine⟨k,?_,hk,rfl,rfl⟩
    have:=rJ (k:=k) hx.wf (by rw [hlen.out];exact hk) HV.out (bW (by rw [hxk.out];exact hz))
    show k=_
    rw [this,dK,hlen.out];omega
  ·go_wp2_with fail
   go_ret
   refine⟨k,?_,hk,rfl,rfl⟩
   have:=rJ (k:=k) hx.wf (by rw [hlen.out];exact hk) HV.out (bS (by omega))
   show k=_
   rw [this,dK,hlen.out];omega
theorem MN (hx:Rd w A n cap xs)(hl:n≤1099511627776):aQ aM 85 #[AT A n cap] w (j9 w (nv xs)):=by
 have hlen:=Lib.hid hx.len
 go_enter Tryz.func85,Tryz.ntmps85
 go_wp2_with fail
 refine (jG hx (hl:=hl)).mono ?_
 rintro e w' ⟨m,hm,hmn,rfl,rfl⟩
 have hmk:=jV (P:=aM) Tryz.underlying22 iG G (by decide) (m:Int) (by omega) (by omega)
 simp only [jQ] at hmk
 go_wp2_with ((with_reducible refine dE (some 11) ?_);refine wN G (.tmp 9) (.tmp 10) 22 22 G G G Tryz.underlying22 wY (Bk.new' _ _ _) (hx.rv.ext (aD.alloc _)) (fun _=>rfl) ?fit (zD xs) ?_;rotate_left;intro w1 hb1 hu1)
 case fit=>simp [tF]
 go_ret
 have e:wd (nv xs)=xs.take m:=by
  have h1:=hx.wf
  have h2:m≤xs.length:=by rw [hlen.out];exact hmn
  exact mD h1 hm.out
 refine pA (g:=w.heap.size) (ys:=xs.take m) (aS _) ?_ ?_ (aS _) (by rw [eB];omega) ?_ (hu1.ext ((Ext.refl w).alloc _) (aS _))
 ·have h:=hb1
  rw [tF,jC,←kG,wV,KM _ _ (by rw [List.length_replicate,dK,hlen.out];omega)] at h
  exact h
 ·rw [dK,hlen.out];omega
 ·rw [List.take_take,Nat.min_self,e]
theorem jW (hx:Rd w A n cap xs)(hl:n≤1099511627776:=by omega):aQ aM 58 #[AT A n cap] w (j9 w (nv xs)):=by
 go_enter Tryz.func58,Tryz.ntmps58
 go_wp2_with fail
 refine (MN hx hl).mono ?_
 rintro e w' ⟨A1,n1,c1,rfl,h⟩
 go_wp2_with fail
 go_ret
 exact⟨A1,n1,c1,rfl,h⟩
def sZ (a b:Nat)(w:a7)(e:dM)(w':a7):Prop:=
 ∃c:Int,Hid (c=dY a b)∧ -1≤c∧c≤1∧e= .returned (v4 c)∧Ext w w'
theorem lU {a:Nat}{c:Int}(h:dY a b=c)(hx:Ext w w'):sZ a b w (.returned (v4 c)) w':=by
 subst h
 exact⟨_,rfl,(GH a b).1,(GH a b).2,rfl,hx⟩
theorem uC (hx:Rd w A n cap xs)(hy:Rd w B n' cap' ys)(hl:n≤1099511627776:=by omega)(hl':n'≤1099511627776:=by omega):aQ aM 87 #[AT A n cap,AT B n' cap'] w (sZ (nv xs) (nv ys) w):=by
 have hlx:=Lib.hid hx.len
 have hly:=Lib.hid hy.len
 go_enter Tryz.func87,Tryz.ntmps87
 go_wp2_with fail
 refine (jG hx (hl:=hl)).mono ?_
 rintro e w' ⟨m,hm,hmn,rfl,rfl⟩
 go_wp2_with fail
 refine (jG hy (hl:=hl')).mono ?_
 rintro e w' ⟨k,hk,hkn,rfl,rfl⟩
 rcases Nat.lt_trichotomy m k with hlt | rfl | hgt
 ·have h1:((m:Int) != (k:Int))=true:=by simp;omega
  go_wp2_with fail
  go_ret
  exact lU (uZ (DU (by rw [←hm.out,←hk.out];exact hlt))) (Ext.refl w)
 ·have h1:((m:Int) != (m:Int))=false:=by simp
  go_wp2_with fail
  go_loopw [7] (fun u wr=>∃i:Nat,i≤m∧u= v4 ((i:Int)-1)∧Hid (dY (nv (xs.take i)) (nv (ys.take i))=dY (nv xs) (nv ys))∧Ext w wr) (fun u wr=>(intOf u+1).toNat)
  case atStart=>exact⟨m,aS _,rfl,(show _=_ by rw [nF hx.wf hm.out,nF hy.wf hk.out]),Ext.refl w⟩
  case round=>
   obtain⟨i,hi,rfl,hv,hext⟩:=hrel
   by_cases h0:0<i
   ·obtain⟨a,x,rfl,hxk,hxb,hc⟩:=(hx.ext hext).get (i:=i-1) (by omega)
    obtain⟨b,y,rfl,hyk,hyb,hd⟩:=(hy.ext hext).get (i:=i-1) (by omega)
    have hi':i-1+1=i:=by omega
    have hcast:((i-1:Nat):Int)=(i:Int)-1:=by omega
    have b1:(0:Int)≤(i:Int)-1:=by omega
    rcases Nat.lt_trichotomy x y with hlt | rfl | hgt
    ·go_wp2_with fail
     go_quiet (fail)
     go_wp2_with fail
     go_ret
     refine lU ?_ (by repeat (first | exact Ext.refl _ | assumption | apply Ext.drewN | apply Ext.drew | apply Ext.alloc))
     rw [←hv.out,←hi']
     exact uZ (D3 hx.wf (by rw [hlx.out];omega) (by rw [hly.out];omega) (by rw [hxk.out,hyk.out];exact hlt))
    ·go_wp2_with fail
     go_quiet (fail)
     go_wp2_with fail
     go_quiet (fail)
     go_wp2_with fail
     go_roundw
     case rel=>
      refine⟨i-1,by omega,by congr 1;omega,?_,(by repeat (first | exact Ext.refl _ | assumption | apply Ext.drewN | apply Ext.drew | apply Ext.alloc))⟩
      show _=_
      rw [←hv.out,←S8 (k:=i-1) (by rw [hlx.out];omega) (by rw [hly.out];omega) (by rw [hxk.out,hyk.out]),hi']
     case measure=>simp [intOf];omega
    ·go_wp2_with fail
     go_quiet (fail)
     go_wp2_with fail
     go_quiet (fail)
     go_wp2_with fail
     go_ret
     refine lU ?_ (by repeat (first | exact Ext.refl _ | assumption | apply Ext.drewN | apply Ext.drew | apply Ext.alloc))
     rw [←hv.out,←hi']
     exact v8 (D3 hy.wf (by rw [hly.out];omega) (by rw [hlx.out];omega) (by rw [hxk.out,hyk.out];exact hgt))
   ·go_wp2_with fail
    go_ret
    refine lU ?_ hext
    rw [←hv.out,show i=0 from by omega]
    simp [GG]
 ·have h1:((m:Int) != (k:Int))=true:=by simp;omega
  go_wp2_with fail
  go_ret
  exact lU (v8 (DU (by rw [←hm.out,←hk.out];exact hgt))) (Ext.refl w)
theorem H0 {c:Nat}(hli:i<l.length)(hxi:i<xs.length)(hmy:m≤ys.length)(h:nv (l.take i)+WB^i*c=nv (xs.take i)+nv (ys.take (min i m)))(hx:xs.getD i 0=x)(hy:(if i<m then ys.getD i 0 else 0)=y)(hs:s+WB*d=x+y+c):nv ((l.set i s).take (i+1))+WB^(i+1)*d=nv (xs.take (i+1))+nv (ys.take (min (i+1) m)):=by
 have D:(l.set i s).getD i 0=s:=by simp [bE,hli]
 have o:(l.set i s).take i=l.take i:=by rw [List.take_set_of_le (aS i)]
 rw [eE _ i (by rw [List.length_set];exact hli),D,o,eE xs i hxi,hx]
 have p:nv (ys.take (min (i+1) m))=nv (ys.take (min i m))+WB^i*y:=by
  by_cases f:i<m
  ·rw [if_pos f] at hy
   rw [gL (by omega),gL (by omega),eE ys i (by omega),hy]
  ·rw [if_neg f] at hy
   rw [Nat.min_eq_right (by omega),Nat.min_eq_right (by omega),←hy,fX,eI]
 rw [p,dJ,bZ]
 have q:WB^i*(s+WB*d)=WB^i*(x+y+c):=by rw [hs]
 simp only [cS] at q
 omega
def TW (w:a7)(S:Nat)(u v:aI)(wc:a7):Prop:=
 ∃A n cap xs B n' cap' ys,u= AT A n cap∧v= AT B n' cap'∧Rd wc A n cap xs∧Rd wc B n' cap' ys∧n≤1099511627775∧n'≤1099511627775∧Hid (nv xs+nv ys=S)∧(wd (nv ys)).length≤(wd (nv xs)).length∧Ext w wc
theorem MP (hx:Rd w A n cap xs)(hl:n≤1099511627775)(hy:Rd w B n' cap' ys)(hl':n'≤1099511627775):aQ aM 89 #[AT A n cap,AT B n' cap'] w (j9 w (nv xs+nv ys)):=by
 go_enter Tryz.func89,Tryz.ntmps89
 go_upto_if 15 with (fail)
 refine (jG hx).mono ?_
 rintro e w' ⟨m,hm,hmn,rfl,rfl⟩
 go_upto_if 15 with (fail)
 refine (jG hy).mono ?_
 rintro e w' ⟨k,hk,hkn,rfl,rfl⟩
 go_upto_if 15 with (fail)
 go_cut [0,1] (fun u v wc=>TW w (nv xs+nv ys) u v wc)
 case first=>
  by_cases hlt:m<k
  ·go_wp2_with fail
   go_meet
   case rel=>exact⟨B,n',cap',ys,A,n,cap,xs,rfl,rfl,hy,hx,hl',hl,Nat.add_comm _ _,by rw [←hm.out,←hk.out];omega,Ext.refl w⟩
  ·go_wp2_with fail
   go_meet
   case rel=>exact⟨A,n,cap,xs,B,n',cap',ys,rfl,rfl,hx,hy,hl,hl',rfl,by rw [←hm.out,←hk.out];omega,Ext.refl w⟩
 case rest=>
  clear hm hk hmn hkn hx hy hl hl'
  obtain⟨A,n,cap,xs,B,n',cap',ys,rfl,rfl,hx,hy,hl,hl',hS,hle,hext⟩:=hcut
  go_wp2_with fail
  refine (jG hx).mono ?_
  rintro e w' ⟨m,hm,hmn,rfl,rfl⟩
  go_wp2_with fail
  refine (jG hy).mono ?_
  rintro e w' ⟨k,hk,hkn,rfl,rfl⟩
  have hkm:k≤m:=by rw [hm.out,hk.out];exact hle
  have hlx:=Lib.hid hx.len
  have hly:=Lib.hid hy.len
  have hmk:=jV (P:=aM) Tryz.underlying22 iG G (by decide) ((m:Int)+1) (by omega) (by omega)
  have et:((m:Int)+1).toNat=m+1:=by omega
  rw [et] at hmk
  clear et
  go_wp2_with fail
  clear hmk
  obtain⟨g,hg⟩:∃g,wc.heap.size=g:=⟨_,rfl⟩
  rw [hg]
  obtain⟨wa,hwa⟩:∃wa,wc.alloc (.cells (zc (.int .u64 0) (m+1)) 36)=wa:=⟨_,rfl⟩
  rw [hwa]
  have hbk:Bk wa g 36 ((dL (m+1) 0).map aY):=by
   rw [←hwa,←hg,←jC];exact Bk.new' _ _ _
  have hea:Ext wc wa:=by rw [←hwa];exact (Ext.refl wc).alloc _
  have hgs:w.heap.size≤g:=by rw [←hg];exact hext.size
  have hgc:wc.heap.size≤g:=by rw [hg];exact aS _
  clear hg hwa
  go_loopw [26,8] (fun u v wr=>∃(i c:Nat) (l:List Nat),i≤m∧c≤1∧u= v4 (i:Int)∧v= AI (c:Int)∧Hid (l.length=m+1)∧Wf l∧Bk wr g 36 (l.map aY)∧
   Hid (nv (l.take i)+WB^i*c=nv (xs.take i)+nv (ys.take (min i k)))∧Ext wc wr) (fun u v wr=>m-(intOf u).toNat)
  case atStart=>exact⟨0,0,_,bJ _,bJ _,rfl,rfl,List.length_replicate,mU _,hbk,by simp [Hid,nv],hea⟩
  case round=>
   obtain⟨i,c,l,hi,hc,rfl,rfl,hll,hwl,hb,hv,hr⟩:=hrel
   clear hbk hea
   by_cases him:i<m
   ·obtain⟨a,x,rfl,hxk,hxb,hcx⟩:=(hx.ext hr).get (i:=i) (by omega)
    obtain⟨o,ho,_,hco⟩:=hb.word hwl (i:=i) (by rw [hll.out];omega)
    have hfr:=hb.frozen i
    by_cases hik:i<k
    ·obtain⟨b,y,rfl,hyk,hyb,hcy⟩:=(hy.ext hr).get (i:=i) (by omega)
     go_wp2_with ((with_reducible refine dE (some 45) ?_);refine AN G (.tmp 42) (.tmp 43) (.tmp 44) G x y c G G G hc hxb hyb ?_;intro s d hs hsb hd)
     go_roundw
     case rel=>exact⟨i+1,d,_,by omega,hd,by go_num,rfl,by show _=_;rw [List.length_set];exact hll.out,fW hwl i (by rw [cI];omega),by rw [←dO];exact hb.set i _,
      H0 (by rw [hll.out];omega) (by rw [hlx.out];omega) (by rw [hly.out];omega) hv.out hxk.out (by rw [if_pos hik];exact hyk.out) hs.out,hr.setCell hgc _⟩
     case measure=>simp [intOf];omega
    ·go_wp2_with ((with_reducible refine dE (some 45) ?_);refine AN G (.tmp 42) (.tmp 43) (.tmp 44) G x 0 c G G G hc hxb (by omega) ?_;intro s d hs hsb hd)
     go_roundw
     case rel=>exact⟨i+1,d,_,by omega,hd,by go_num,rfl,by show _=_;rw [List.length_set];exact hll.out,fW hwl i (by rw [cI];omega),by rw [←dO];exact hb.set i _,
      H0 (by rw [hll.out];omega) (by rw [hlx.out];omega) (by rw [hly.out];omega) hv.out hxk.out (by rw [if_neg hik]) hs.out,hr.setCell hgc _⟩
     case measure=>simp [intOf];omega
   ·obtain rfl:i=m:=by omega
    obtain⟨o,ho,_,hco⟩:=hb.word hwl (i:=i) (by rw [hll.out];omega)
    have hfr:=hb.frozen i
    have hb2:=hb.set i (AI (c:Int))
    rw [dO] at hb2
    have hll2:Hid ((l.set i c).length=i+1):=by show _=_;rw [List.length_set];exact hll.out
    have hwl2:Wf (l.set i c):=fW hwl i (by rw [cI];omega)
    have hr2:Rd (wr.setCell ⟨g,i,none⟩ (AI (c:Int))) (some ⟨g,0,none⟩) (i+1) (i+1) (l.set i c):=by
     have:=hb2.rd hwl2 (o:=0) (n:=i+1) (cap:=i+1) (aS _) (by rw [hll2.out];omega) (by rw [eB];omega)
     rwa [i9,List.take_of_length_le (by rw [hll2.out];omega)] at this
    have hval:Hid (nv (l.set i c)=nv xs+nv ys):=by
     show _=_
     have e1:(l.set i c).getD i 0=c:=by
      have:=hll.out
      simp [bE,this]
     have e2:(l.set i c).take i=l.take i:=by rw [List.take_set_of_le (aS i)]
     have e3:=eE (l.set i c) i (by rw [hll2.out];omega)
     rw [e1,e2,List.take_of_length_le (by rw [hll2.out];omega),hv.out,Nat.min_eq_right hkm] at e3
     rw [e3,nF hx.wf hm.out,nF hy.wf hk.out]
    go_wp2_with fail
    refine (jG hr2).mono ?_
    rintro e w' ⟨q,hq,hqn,rfl,rfl⟩
    go_wp2_with fail
    go_ret
    rw [←hS.out,←hval.out]
    exact pA (ys:=l.set i c) hgs hb2 hll2.out hqn (by rw [eB];omega) (mD hwl2 hq.out).symm ((hext.trans hr).setCell hgs _)
def sR (w:a7)(m:Nat)(er:Int)(e:dM)(w':a7):Prop:=
 ∃A n cap,e= .returned (.tuple #[AT A n cap,v4 er])∧Hid (n=(wd m).length)∧Rd w' A n cap (wd m)∧Own w' w.heap.size 36 1 A n cap ((wd m).map aY)∧Ext w w'
theorem zG (h:j9 w m (.returned (AT A n cap)) w'):sR w m er (.returned (.tuple #[AT A n cap,v4 er])) w':=by
 obtain⟨A',n',c',he,r⟩:=h
 cases he
 exact⟨_,_,_,rfl,r⟩
theorem BL {c:Nat}(hli:i<l.length)(hxi:i<xs.length)(hmy:m≤ys.length)(h:nv (l.take i)+nv (ys.take (min i m))=nv (xs.take i)+WB^i*c)(hx:xs.getD i 0=x)(hy:(if i<m then ys.getD i 0 else 0)=y)(hs:s+y+c=x+WB*d):nv ((l.set i s).take (i+1))+nv (ys.take (min (i+1) m))=nv (xs.take (i+1))+WB^(i+1)*d:=by
 have D:(l.set i s).getD i 0=s:=by simp [bE,hli]
 have o:(l.set i s).take i=l.take i:=by rw [List.take_set_of_le (aS i)]
 rw [eE _ i (by rw [List.length_set];exact hli),D,o,eE xs i hxi,hx]
 have p:nv (ys.take (min (i+1) m))=nv (ys.take (min i m))+WB^i*y:=by
  by_cases f:i<m
  ·rw [if_pos f] at hy
   rw [gL (by omega),gL (by omega),eE ys i (by omega),hy]
  ·rw [if_neg f] at hy
   rw [Nat.min_eq_right (by omega),Nat.min_eq_right (by omega),←hy,fX,eI]
 rw [p,dJ,bZ]
 have q:WB^i*(s+y+c)=WB^i*(x+WB*d):=by rw [hs]
 simp only [cS] at q
 omega
theorem DE (hx:Rd w A n cap xs)(hl:n≤1099511627775)(hy:Rd w B n' cap' ys)(hl':n'≤1099511627775)(hle:nv ys≤nv xs):aQ aM 90 #[AT A n cap,AT B n' cap'] w (sR w (nv xs-nv ys) 0):=by
 go_enter Tryz.func90,Tryz.ntmps90
 go_wp2_with fail
 refine (uC hx hy).mono ?_
 rintro e wc ⟨c,hc,hc1,hc2,rfl,hx1⟩
 have hneg:¬c<0:=by rw [hc.out,mP];omega
 go_wp2_with fail
 refine (jG (hx.ext hx1)).mono ?_
 rintro e w' ⟨m,hm,hmn,rfl,rfl⟩
 go_wp2_with fail
 refine (jG (hy.ext hx1)).mono ?_
 rintro e w' ⟨k,hk,hkn,rfl,rfl⟩
 have hkm:k≤m:=by rw [hm.out,hk.out];exact jX hle
 have hlx:=Lib.hid hx.len
 have hly:=Lib.hid hy.len
 have hmk:=jV (P:=aM) Tryz.underlying22 iG G (by decide) (m:Int) (by omega) (by omega)
 rw [jQ] at hmk
 go_wp2_with fail
 clear hmk
 obtain⟨g,hg⟩:∃g,wc.heap.size=g:=⟨_,rfl⟩
 rw [hg]
 obtain⟨wa,hwa⟩:∃wa,wc.alloc (.cells (zc (.int .u64 0) m) 36)=wa:=⟨_,rfl⟩
 rw [hwa]
 have hbk:Bk wa g 36 ((dL m 0).map aY):=by
  rw [←hwa,←hg,←jC];exact Bk.new' _ _ _
 have hea:Ext wc wa:=by rw [←hwa];exact (Ext.refl wc).alloc _
 have hgs:w.heap.size≤g:=by rw [←hg];exact hx1.size
 have hgc:wc.heap.size≤g:=by rw [hg];exact aS _
 clear hg hwa hc hneg hc1 hc2
 go_loopw [23,9] (fun u v wr=>∃(i c:Nat) (l:List Nat),i≤m∧c≤1∧u= v4 (i:Int)∧v= AI (c:Int)∧Hid (l.length=m)∧Wf l∧Bk wr g 36 (l.map aY)∧
  Hid (nv (l.take i)+nv (ys.take (min i k))=nv (xs.take i)+WB^i*c)∧Ext wc wr) (fun u v wr=>m-(intOf u).toNat)
 case atStart=>exact⟨0,0,_,bJ _,bJ _,rfl,rfl,List.length_replicate,mU _,hbk,by simp [Hid,nv],hea⟩
 case round=>
  obtain⟨i,c,l,hi,hc,rfl,rfl,hll,hwl,hb,hv,hr⟩:=hrel
  clear hbk hea
  by_cases him:i<m
  ·obtain⟨a,x,rfl,hxk,hxb,hcx⟩:=((hx.ext hx1).ext hr).get (i:=i) (by omega)
   obtain⟨o,ho,_,hco⟩:=hb.word hwl (i:=i) (by rw [hll.out];omega)
   have hfr:=hb.frozen i
   by_cases hik:i<k
   ·obtain⟨b,y,rfl,hyk,hyb,hcy⟩:=((hy.ext hx1).ext hr).get (i:=i) (by omega)
    go_wp2_with ((with_reducible refine dE (some 42) ?_);refine AH G (.tmp 39) (.tmp 40) (.tmp 41) G x y c G G G hc hxb hyb ?_;intro s d hs hsb hd)
    go_roundw
    case rel=>exact⟨i+1,d,_,by omega,hd,by go_num,rfl,by show _=_;rw [List.length_set];exact hll.out,fW hwl i (by rw [cI];omega),by rw [←dO];exact hb.set i _,
     BL (by rw [hll.out];omega) (by rw [hlx.out];omega) (by rw [hly.out];omega) hv.out hxk.out (by rw [if_pos hik];exact hyk.out) hs.out,hr.setCell hgc _⟩
    case measure=>simp [intOf];omega
   ·go_wp2_with ((with_reducible refine dE (some 42) ?_);refine AH G (.tmp 39) (.tmp 40) (.tmp 41) G x 0 c G G G hc hxb (by omega) ?_;intro s d hs hsb hd)
    go_roundw
    case rel=>exact⟨i+1,d,_,by omega,hd,by go_num,rfl,by show _=_;rw [List.length_set];exact hll.out,fW hwl i (by rw [cI];omega),by rw [←dO];exact hb.set i _,
     BL (by rw [hll.out];omega) (by rw [hlx.out];omega) (by rw [hly.out];omega) hv.out hxk.out (by rw [if_neg hik]) hs.out,hr.setCell hgc _⟩
    case measure=>simp [intOf];omega
  ·obtain rfl:i=m:=by omega
   have hr2:Rd wr (some ⟨g,0,none⟩) i i l:=by
    have:=hb.rd hwl (o:=0) (n:=i) (cap:=i) (aS _) (by rw [hll.out];omega) (by rw [eB];omega)
    rwa [i9,List.take_of_length_le (by rw [hll.out];omega)] at this
   have hval:Hid (nv l=nv xs-nv ys):=by
    show _=_
    have e:=hv.out
    rw [Nat.min_eq_right hkm,nF hx.wf hm.out,nF hy.wf hk.out,List.take_of_length_le (by rw [hll.out];omega)] at e
    have hlt:nv l<WB^i:=by have:=gW hwl;rwa [hll.out] at this
    by_cases h0:c=0
    ·rw [h0,fX] at e;omega
    ·have hc1:c=1:=by omega
     rw [hc1,eG] at e;omega
   go_wp2_with fail
   refine (jG hr2).mono ?_
   rintro e w' ⟨q,hq,hqn,rfl,rfl⟩
   go_wp2_with fail
   go_ret2
   rw [←hval.out]
   exact zG (pA (ys:=l) hgs hb hll.out hqn (by rw [eB];omega) (mD hwl hq.out).symm (hx1.trans hr))
theorem SO (hw:Wf xs)(hm:m=(wd (nv xs)).length)(h0:0<m)(hx:xs.getD (m-1) 0=x):x≠0∧64*(m-1)+dP x=dP (nv xs):=by
 have e:=mD hw hm
 have p:nv xs≠0:=fun h=>by rw [h,kT] at hm;simp at hm;omega
 have D:m≤xs.length:=by rw [hm];exact gP hw
 have q:nv xs=nv (xs.take (m-1))+WB^(m-1)*x:=by
  rw [←nF hw hm,←hx,←eE xs (m-1) (by omega),iV h0]
 have E:=jF hw (m-1)
 have f:x≠0:=by
  rintro rfl
  have o:=CS p
  rw [←hm] at o
  rw [fX] at q
  omega
 refine⟨f,(GQ ?_ (bW ?_)).symm⟩
 ·have o:=rV x
  rw [dU,Nat.pow_mul,←kD]
  have F:WB^(m-1)*x+WB^(m-1)≤WB^(m-1)*2^dP x:=by
   have:=fG (WB^(m-1)) (mW o)
   rwa [qW] at this
  omega
 ·have o:=yZ f
  have hb:dP x≠0:=fun h=>f (sM.1 h)
  rw [Nat.add_sub_assoc (by omega),dU,Nat.pow_mul,←kD]
  have:=fG (WB^(m-1)) o
  omega
def TU (k:Nat)(w:a7)(e:dM)(w':a7):Prop:=∃n:Nat,Hid (n=k)∧e= .returned (v4 (n:Int))∧Ext w w'
theorem DG (hx:Rd w A n cap xs)(hl:n≤1099511627775):aQ aM 56 #[AT A n cap] w (TU (dP (nv xs)) w):=by
 go_enter Tryz.func56,Tryz.ntmps56
 go_wp2_with fail
 refine (jG hx).mono ?_
 rintro e w' ⟨m,hm,hmn,rfl,rfl⟩
 by_cases h0:0<m
 ·obtain⟨a,x,rfl,hxk,hxb,hcx⟩:=hx.get (i:=m-1) (by omega)
  have hb:=Lib.hid (SO hx.wf hm.out h0 hxk.out)
  have b0:((m:Int)==0)=false:=by simp;omega
  go_wp2_with fail
  refine (bits_Len64 x hxb _).mono ?_
  rintro e w' ⟨q,hq,hq64,rfl,rfl⟩
  go_wp2_with fail
  go_ret
  refine⟨64*(m-1)+q,?_,?_,Ext.refl w⟩
  ·show _=_
   rw [hq.out];exact hb.out.2
  ·exact LK (by omega)
 ·obtain rfl:m=0:=by omega
  go_wp2_with fail
  go_ret
  refine⟨0,?_,rfl,Ext.refl w⟩
  show _=_
  rw [(kO.1 hm.out.symm),yY]
def HJ (A:Option aG)(xs:List Nat)(w:a7)(e:dM)(w':a7):Prop:=
 ∃k:Nat,Hid (k=(wd (nv xs)).length)∧e= .returned (AT A k k)∧Rd w A k k (wd (nv xs))∧w=w'
theorem q7 (hx:Rd w A n cap xs)(hl:n≤1099511627776:=by omega):aQ aM 114 #[AT A n cap] w (HJ A xs w):=by
 have hlen:=Lib.hid hx.len
 have hcap:=hx.rv.le
 have hmax:=hx.rv.max
 rw [eB] at hmax
 have fin:∀k,k≤n→k=(wd (nv xs)).length→HJ A xs w (.returned (AT A k k)) w:=by
  intro k hk h
  have h2:=hx.take hk (aS _) (by omega)
  rw [←mD hx.wf h] at h2
  exact⟨k,h,rfl,h2,rfl⟩
 have FIN:=Lib.hid fin
 clear fin
 go_enter Tryz.func114,Tryz.ntmps114
 go_wp2_with fail
 go_loop [3] (fun u=>∃k:Nat,k≤n∧u= v4 (k:Int)∧Hid (nv (xs.take k)=nv xs)) (fun u=>(intOf u).toNat)
 case atStart=>exact⟨n,aS _,rfl,(show _=_ by rw [←hlen.out,List.take_length])⟩
 case round=>
  obtain⟨k,hk,rfl,HV⟩:=hrel
  by_cases h0:0<k
  ·obtain⟨a,x,rfl,hxk,hxb,hc⟩:=hx.get (i:=k-1) (by omega)
   by_cases hz:x=0
   ·subst hz
    go_wp2_with fail
    go_round
    case rel=>
     refine⟨k-1,by omega,eP,?_⟩
     show _=_
     rw [←HV.out,←oH xs (k-1) (by rw [hlen.out];omega) hxk.out,iV h0]
    case measure=>simp [intOf];omega
   ·have hzb:((x:Int)==0)=false:=by simp;omega
    have hk0:¬k=0:=by omega
    go_wp2_with fail
    go_ret
    have:=rJ (k:=k) hx.wf (by rw [hlen.out];exact hk) HV.out (bW (by rw [hxk.out];exact hz))
    exact FIN.out k hk (by rw [this,dK,hlen.out];omega)
  ·obtain rfl:k=0:=by omega
   go_wp2_with fail
   go_ret
   have:=rJ (k:=0) hx.wf (bJ _) HV.out (bS G)
   exact FIN.out 0 hk (by rw [this,dK,hlen.out];omega)
def qQ (g:Nat)(zs:List Nat)(v:Nat)(w:a7)(e:dM)(w':a7):Prop:=
 ∃zs',e= .returned (.tuple #[])∧Bk w' g 36 (zs'.map aY)∧Wf zs'∧Hid (zs'.length=zs.length)∧Hid (nv zs'=v)∧Upd g w w'
theorem GZ {o c z:Nat}(hi:o+i<l.length)(h:nv l+WB^(o+i)*c=V+WB^o*nv (ys.take i))(hz:l.getD (o+i) 0=z)(hy:i<ys.length)(hyk:ys.getD i 0=y)(hs:s+WB*d=z+y+c):nv (l.set (o+i) s)+WB^(o+i+1)*d=V+WB^o*nv (ys.take (i+1)):=by
 have p:=nG hi s
 rw [hz] at p
 rw [eE ys i hy,hyk,cS,←bZ (WB^o),←dU,dJ,bZ]
 have f:WB^(o+i)*(s+WB*d)=WB^(o+i)*(z+y+c):=by rw [hs]
 simp only [cS] at f
 omega
theorem GY {c z:Nat}(hi:k<l.length)(h:nv l+WB^k*c=V)(hz:l.getD k 0=z)(hs:s+WB*d=z+c):nv (l.set k s)+WB^(k+1)*d=V:=by
 have o:=nG hi s
 rw [hz] at o
 rw [dJ,bZ]
 have f:WB^k*(s+WB*d)=WB^k*(z+c):=by rw [hs]
 simp only [cS] at f
 omega
theorem uD {o:Nat}(hz:Bk w g 36 (zs.map aY))(hwz:Wf zs)(hzl:zs.length=o+n)(hy:Rd w B m cap' ys)(hne:∀a,B=some a→0<m→a.block≠g)(hmn:m≤n)(hn:n≤1099511627776)(_ho:o≤1099511627776)(hv:nv zs+WB^o*nv ys<WB^(o+n)):aQ aM 116 #[AT (some ⟨g,o,none⟩) n cap,AT B m cap'] w (qQ g zs (nv zs+WB^o*nv ys) w):=by
 have hly:=Lib.hid hy.len
 have hlz:=Lib.hid hzl
 have HV:=Lib.hid hv
 clear hzl hv
 go_enter Tryz.func116,Tryz.ntmps116
 go_wp2_with fail
 go_loopw [9,4] (fun u v wr=>∃(i c:Nat) (l:List Nat),i≤m∧c≤1∧u= v4 (i:Int)∧v= AI (c:Int)∧Hid (l.length=o+n)∧Wf l∧Bk wr g 36 (l.map aY)∧
  Hid (nv l+WB^(o+i)*c=nv zs+WB^o*nv (ys.take i))∧Upd g w wr) (fun u v wr=>m-(intOf u).toNat)
 case atStart=>exact⟨0,0,zs,bJ _,bJ _,rfl,rfl,hlz.out,hwz,hz,by simp [Hid,nv],Upd.refl _ _⟩
 case round=>
  obtain⟨i,c,l,hi,hc,rfl,rfl,hll,hwl,hb,hv,hr⟩:=hrel
  by_cases him:i<m
  ·obtain⟨a,y,rfl,hyk,hyb,hcy⟩:=(hy.upd hr (fun a ha=>hne a ha (by omega))).get (i:=i) (by omega)
   obtain⟨z,hzk,hzb,hcz⟩:=hb.word hwl (i:=o+i) (by rw [hll.out];omega)
   have hfr:=hb.frozen (o+i)
   obtain⟨s,d,hs,hsb,hd,hadd⟩:=vL hc hzb hyb
   go_wp2_with fail
   go_region
   go_wp2_with fail
   go_roundw
   case rel=>exact⟨i+1,d,l.set (o+i) s,by omega,hd,by go_num,rfl,by show _=_;rw [List.length_set];exact hll.out,fW hwl _ (by rw [cI];omega),by rw [←dO];exact (hb.set _ _).drew,
    GZ (by rw [hll.out];omega) hv.out hzk.out (by rw [hly.out];omega) hyk.out hs.out,(hr.setCell _ _).drew⟩
   case measure=>simp [intOf];omega
  ·obtain rfl:i=m:=by omega
   have hv1:Hid (nv l+WB^(o+i)*c=nv zs+WB^o*nv ys):=by
    show _=_
    rw [hv.out,List.take_of_length_le (by rw [hly.out];omega)]
   clear hv
   go_wp2_with fail
   obtain⟨wo,rfl⟩:∃wo:a7,wo=wr:=⟨_,rfl⟩
   go_loopw [6,4] (fun u v wr=>∃(j c:Nat) (l:List Nat),i≤j∧j≤n∧c≤1∧u= v4 (j:Int)∧v= AI (c:Int)∧Hid (l.length=o+n)∧Wf l∧Bk wr g 36 (l.map aY)∧
    Hid (nv l+WB^(o+j)*c=nv zs+WB^o*nv ys)∧Upd g w wr) (fun u v wr=>n-(intOf u).toNat)
   case atStart=>exact⟨i,c,l,aS _,hmn,hc,rfl,rfl,hll.out,hwl,hb,hv1.out,hr⟩
   case round=>
    obtain⟨j,c2,l2,hij,hjn,hc2,rfl,rfl,hl2,hw2,hb2,hv2,hr2⟩:=hrel
    clear hll hwl hb hv1 hr
    by_cases hc0:c2=0
    ·subst hc0
     have b0:((0:Int) != 0)=false:=rfl
     go_wp2_with fail
     go_end0
     have h:=hv2.out
     rw [fX,eI] at h
     exact⟨l2,rfl,hb2,hw2,(show _=_ by rw [hl2.out,hlz.out]),h,hr2⟩
    ·obtain rfl:c2=1:=by omega
     have hjn':j<n:=by
      refine t7 (fun hle=>?_)
      obtain rfl:j=n:=by omega
      have h:=hv2.out
      have:=HV.out
      rw [eG] at h
      omega
     obtain⟨z,hzk,hzb,hcz⟩:=hb2.word hw2 (i:=o+j) (by rw [hl2.out];omega)
     have hfr:=hb2.frozen (o+j)
     obtain⟨s,d,hs,hsb,hd,hadd⟩:=TB hzb
     have b1:((1:Int) != 0)=true:=rfl
     go_wp2_with fail
     go_roundw
     case rel=>exact⟨j+1,d,l2.set (o+j) s,by omega,by omega,hd,by go_num,rfl,by show _=_;rw [List.length_set];exact hl2.out,fW hw2 _ (by rw [cI];omega),by rw [←dO];exact (hb2.set _ _),
      GY (by rw [hl2.out];omega) hv2.out hzk.out hs.out,(hr2.setCell _ _)⟩
     case measure=>simp [intOf];omega
theorem BJ {c z Y Y':Nat}(hi:i<l.length)(h:nv l+Y=V+WB^i*c)(hz:l.getD i 0=z)(hY:Y'=Y+WB^i*y)(hs:s+y+c=z+WB*d):nv (l.set i s)+Y'=V+WB^(i+1)*d:=by
 have o:=nG hi s
 rw [hz] at o
 rw [dJ,bZ,hY]
 have f:WB^i*(s+y+c)=WB^i*(z+WB*d):=by rw [hs]
 simp only [cS] at f
 omega
theorem DJ (hz:Bk w g 36 (zs.map aY))(hwz:Wf zs)(hzl:zs.length=n)(hy:Rd w B m cap' ys)(hne:∀a,B=some a→0<m→a.block≠g)(hmn:m≤n)(hn:n≤1099511627776)(hv:nv ys≤nv zs):aQ aM 128 #[AT (some ⟨g,0,none⟩) n cap,AT B m cap'] w (qQ g zs (nv zs-nv ys) w):=by
 have hly:=Lib.hid hy.len
 have hlz:=Lib.hid hzl
 have HV:=Lib.hid hv
 clear hzl hv
 go_enter Tryz.func128,Tryz.ntmps128
 go_wp2_with fail
 go_loopw [9,4] (fun u v wr=>∃(i c:Nat) (l:List Nat),i≤n∧c≤1∧u= v4 (i:Int)∧v= AI (c:Int)∧Hid (l.length=n)∧Wf l∧Bk wr g 36 (l.map aY)∧
  Hid (nv l+nv (ys.take i)=nv zs+WB^i*c)∧Upd g w wr) (fun u v wr=>n-(intOf u).toNat)
 case atStart=>exact⟨0,0,zs,bJ _,bJ _,rfl,rfl,hlz.out,hwz,hz,by simp [Hid,nv],Upd.refl _ _⟩
 case round=>
  obtain⟨i,c,l,hi,hc,rfl,rfl,hll,hwl,hb,hv,hr⟩:=hrel
  have fin:i=n∨(m≤i∧c=0)→qQ g zs (nv zs-nv ys) w (.returned (.tuple #[])) wr:=by
   intro h
   have e:=hv.out
   rw [List.take_of_length_le (by rw [hly.out];omega)] at e
   have hlt:nv l<WB^n:=by have:=gW hwl;rwa [hll.out] at this
   refine⟨l,rfl,hb,hwl,(show _=_ by rw [hll.out,hlz.out]),?_,hr⟩
   show _=_
   have h2:=HV.out
   by_cases h0:c=0
   ·rw [h0,fX] at e;omega
   ·have hc1:c=1:=by omega
    have hin:i=n:=by omega
    rw [hc1,eG,hin] at e;omega
  have FIN:=Lib.hid fin
  clear fin
  by_cases him:i<n
  ·obtain⟨z,hzk,hzb,hcz⟩:=hb.word hwl (i:=i) (by rw [hll.out];omega)
   have hfr:=hb.frozen i
   by_cases hiy:i<m
   ·obtain⟨a,y,rfl,hyk,hyb,hcy⟩:=(hy.upd hr (fun a ha=>hne a ha (by omega))).get (i:=i) (by omega)
    obtain⟨s,d,hs,hsb,hd,hsub⟩:=tJ hc hzb hyb
    go_wp2_with fail
    go_roundw
    case rel=>exact⟨i+1,d,l.set i s,by omega,hd,by go_num,rfl,by show _=_;rw [List.length_set];exact hll.out,fW hwl _ (by rw [cI];omega),by rw [←dO];exact (hb.set _ _),
     BJ (by rw [hll.out];omega) hv.out hzk.out (by rw [eE ys i (by rw [hly.out];omega),hyk.out]) hs.out,hr.setCell _ _⟩
    case measure=>simp [intOf];omega
   ·by_cases hc0:c=0
    ·subst hc0
     go_wp2_with fail
     refine iT (results_none G _ _ _) G ?_
     exact FIN.out (bW ⟨by omega,by simp⟩)
    ·obtain rfl:c=1:=by omega
     obtain⟨s,d,hs,hsb,hd,hsub⟩:=KI hzb
     go_wp2_with fail
     go_roundw
     case rel=>exact⟨i+1,d,l.set i s,by omega,hd,by go_num,rfl,by show _=_;rw [List.length_set];exact hll.out,fW hwl _ (by rw [cI];omega),by rw [←dO];exact (hb.set _ _),
      BJ (y:=0) (c:=1) (by rw [hll.out];omega) hv.out hzk.out (by rw [List.take_of_length_le (by rw [hly.out];omega),List.take_of_length_le (by rw [hly.out];omega),fX,eI]) hs.out,hr.setCell _ _⟩
     case measure=>simp [intOf];omega
  ·go_wp2_with fail
   go_end0
   exact FIN.out (bS (by omega))
def NewP (w:a7)(v n:Nat)(e:dM)(w':a7):Prop:=
 ∃g zs,e= .returned (AT (some ⟨g,0,none⟩) n n)∧w.heap.size≤g∧Bk w' g 36 (zs.map aY)∧Wf zs∧Hid (zs.length=n)∧Hid (nv zs=v)∧Ext w w'
theorem D4 (h:xs.length≤n):nv (splice (dL n 0) 0 xs)=nv xs∧(splice (dL n 0) 0 xs).length=n:=by
 unfold splice
 constructor
 ·rw [List.take_zero,List.nil_append,List.drop_replicate,xQ,xO,fX,eI]
 ·simp;omega
theorem H9 (hx:Wf xs)(hy:Wf ys)(o:Nat):Wf (splice xs o ys):=sP (oZ hx _) (sP hy (zC hx _))
theorem DH (hx:Rd w A n cap xs)(hl:n≤549755813888)(hy:Rd w B m cap' ys)(hl':m≤549755813888):aQ aM 127 #[AT A n cap,AT B m cap'] w (NewP w (nv xs+nv ys) (max n m+1)):=by
 have hlx:=Lib.hid hx.len
 have hly:=Lib.hid hy.len
 obtain⟨k,hk⟩:∃k,max n m=k:=⟨_,rfl⟩
 rw [hk]
 have hnk:n≤k:=by omega
 have hmk':m≤k:=by omega
 have hkb:k≤549755813888:=by omega
 have hmax:max (n:Int) (m:Int)=(k:Int):=by omega
 have hmk:=jV (P:=aM) Tryz.underlying22 iG G (by decide) ((k:Int)+1) (by omega) (by omega)
 have et:((k:Int)+1).toNat=k+1:=by omega
 rw [et] at hmk
 clear et hk
 go_enter Tryz.func127,Tryz.ntmps127
 go_upto_region 2 with (fail)
 clear hmk
 obtain⟨g,hg⟩:∃g,w.heap.size=g:=⟨_,rfl⟩
 rw [hg]
 obtain⟨wa,hwa⟩:∃wa,w.alloc (.cells (zc (.int .u64 0) (k+1)) 36)=wa:=⟨_,rfl⟩
 rw [hwa]
 have hbk:Bk wa g 36 ((dL (k+1) 0).map aY):=by
  rw [←hwa,←hg,←jC];exact Bk.new' _ _ _
 have hea:Ext w wa:=by rw [←hwa];exact (Ext.refl w).alloc _
 have hgs:w.heap.size≤g:=by rw [hg];exact aS _
 clear hg hwa
 have hr1:n≤k+1:=by omega
 go_wp2_with ((with_reducible refine dE (some 15) ?_);refine wN G (.tmp 13) (.tmp 14) 22 22 G G G Tryz.underlying22 wY hbk (hx.rv.ext hea) (fun _=>rfl) (by rw [List.length_map,List.length_replicate];omega) (zD xs) ?_;intro w1 hb1 hu1)
 rw [←kG,wV,List.take_of_length_le (l:=xs) (by rw [hlx.out];omega)] at hb1
 obtain⟨zs,hzs⟩:∃zs,zs=splice (dL (k+1) 0) 0 xs:=⟨_,rfl⟩
 have hz2:=D4 (xs:=xs) (n:=k+1) (by rw [hlx.out];omega)
 have hwz:Wf zs:=by rw [hzs];exact H9 (mU _) hx.wf _
 rw [←hzs] at hb1 hz2
 clear hzs
 obtain⟨hzv,hzl⟩:=hz2
 have HZV:=Lib.hid hzv
 have HZL:=Lib.hid hzl
 clear hzv hzl
 have he1:Ext w w1:=hu1.ext hea hgs
 refine (uD (o:=0) (n:=k+1) hb1 hwz (by rw [HZL.out];omega) (hy.ext he1) (fun a ha hp=>by have:=hy.rv.blk a ha (by have:=hy.rv.le;omega);omega) (by omega) (by omega) (by omega) ?_).mono ?_
 ·have h1:=gW hx.wf
  have h2:=gW hy.wf
  rw [hlx.out] at h1
  rw [hly.out] at h2
  have h3:WB^n≤WB^k:=i6 fF hnk
  have h4:WB^m≤WB^k:=i6 fF hmk'
  have h5:WB^k*2≤WB^k*WB:=fG _ HH
  rw [HZV.out,Nat.pow_zero,Nat.one_mul,eX,dJ]
  omega
 rintro e w2 ⟨zs',rfl,hb2,hw2,hl2,hv2,hu2⟩
 go_wp2_with fail
 go_ret
 refine⟨g,zs',rfl,hgs,hb2,hw2,(show _=_ by rw [hl2.out,HZL.out]),?_,hu2.ext he1 hgs⟩
 show _=_
 rw [hv2.out,HZV.out,Nat.pow_zero,Nat.one_mul]
theorem MT {c o P:Nat}(hk:k=i+j)(hkm:k<m)(hml:m≤l.length)(h:nv (l.take m)+WB^k*c=P+x*(WB^i*nv (ys.take j)))(ho:l.getD k 0=o)(hj:j<ys.length)(hy:ys.getD j 0=y)(hs:s+WB*d=o+x*y+c):nv ((l.set k s).take m)+WB^(k+1)*d=P+x*(WB^i*nv (ys.take (j+1))):=by
 have p:=nG (l:=l.take m) (k:=k) (by rw [dK];omega) s
 rw [yA hkm,ho] at p
 rw [List.take_set,eE ys j hj,hy,cS (WB^i),cS x,←iW,←h,←bZ (WB^i),←dU,←hk,dJ,bZ (WB^k)]
 have f:WB^k*(s+WB*d)=WB^k*(o+x*y+c):=by rw [hs]
 simp only [cS] at f
 have q:WB^k*(x*y)=x*(WB^k*y):=by rw [←bZ,cM (WB^k) x,bZ]
 rw [q] at f
 omega
theorem MW {capa capb:Nat}(hz:Bk w g 36 (zs.map aY))(hzz:zs=dL N 0)(hN:N=n+m)(hx:Rd w A n capa xs)(hy:Rd w B m capb ys)(hna:∀a,A=some a→0<n→a.block≠g)(hnb:∀a,B=some a→0<m→a.block≠g)(hn:n≤549755813888)(hm:m≤549755813888):aQ aM 115 #[AT (some ⟨g,0,none⟩) N cap,AT A n capa,AT B m capb] w (qQ g zs (nv xs*nv ys) w):=by
 have hlx:=Lib.hid hx.len
 have hly:=Lib.hid hy.len
 have hlz:=Lib.hid (show zs.length=n+m by rw [hzz,List.length_replicate,hN])
 have hwz:Wf zs:=by rw [hzz];exact mU _
 have hz0:=Lib.hid (show∀t,zs.getD t 0=0 by intro t;rw [hzz];simp [bE,List.getElem?_replicate];split <;> rfl)
 have hzv:=Lib.hid (show nv (zs.take m)=0 by rw [hzz,List.take_replicate,xO])
 subst hN
 clear hzz
 go_enter Tryz.func115,Tryz.ntmps115
 go_wp2_with fail
 go_loopw [16] (fun u wr=>∃(i:Nat) (l:List Nat),i≤n∧u= v4 (i:Int)∧Hid (l.length=n+m)∧Wf l∧Bk wr g 36 (l.map aY)∧
  Hid (nv (l.take (i+m))=nv (xs.take i)*nv ys)∧Hid (∀t,i+m≤t→l.getD t 0=0)∧Upd g w wr) (fun u wr=>n-(intOf u).toNat)
 case atStart=>exact⟨0,zs,bJ _,rfl,hlz.out,hwz,hz,by simp [Hid,nv];exact hzv.out,fun t _=>hz0.out t,Upd.refl _ _⟩
 case round=>
  obtain⟨i,l,hi,rfl,hll,hwl,hb,hv,h0,hr⟩:=hrel
  by_cases hip:i<n
  ·obtain⟨a,x,rfl,hxk,hxb,hcx⟩:=(hx.upd hr (fun a ha=>hna a ha (by omega))).get (i:=i) (by omega)
   by_cases hx0:x=0
   ·subst hx0
    have hstay:Hid (nv (l.take (i+1+m))=nv (xs.take (i+1))*nv ys):=by
     show _=_
     rw [show i+1+m=i+m+1 from by omega,oH l (i+m) (by rw [hll.out];omega) (h0.out _ (by omega)),hv.out,oH xs i (by rw [hlx.out];omega) hxk.out]
    go_wp2_with fail
    go_roundw
    case rel=>exact⟨i+1,l,by omega,by go_num,hll.out,hwl,hb,hstay.out,fun t ht=>h0.out t (by omega),hr⟩
    case measure=>simp [intOf];omega
   ·have hxz:((x:Int)==0)=false:=by simp;omega
    go_wp2_with fail
    obtain⟨wo,rfl⟩:∃wo:a7,wo=wr:=⟨_,rfl⟩
    go_loopw [25,8] (fun u v wr=>∃(j c:Nat) (l:List Nat),j≤m∧c≤18446744073709551615∧u= v4 (j:Int)∧v= AI (c:Int)∧Hid (l.length=n+m)∧Wf l∧Bk wr g 36 (l.map aY)∧
     Hid (nv (l.take (i+m))+WB^(i+j)*c=nv (xs.take i)*nv ys+x*(WB^i*nv (ys.take j)))∧Hid (∀t,i+m≤t→l.getD t 0=0)∧Upd g w wr) (fun u v wr=>m-(intOf u).toNat)
    case atStart=>exact⟨0,0,l,bJ _,by omega,rfl,rfl,hll.out,hwl,hb,(show _=_ by rw [hv.out];simp [nv]),h0.out,hr⟩
    case round=>
     obtain⟨j,c,l2,hj,hc,rfl,rfl,hl2,hw2,hb2,hv2,h02,hr2⟩:=hrel
     clear hll hwl hb hv h0 hr hcx
     by_cases hjq:j<m
     ·obtain⟨b,y,rfl,hyk,hyb,hcy⟩:=(hy.upd hr2 (fun a ha=>hnb a ha (by omega))).get (i:=j) (by omega)
      obtain⟨o,hok,aC,hco⟩:=hb2.word hw2 (i:=i+j) (by rw [hl2.out];omega)
      have hfr:=hb2.frozen (i+j)
      go_wp2_with fail
      refine (bits_Mul64 x y hxb hyb _).mono ?_
      rintro e w' ⟨hi',lo,hp,hhb,hlb,rfl,rfl⟩
      obtain⟨s1,d1,hs1,hsb1,hd1,hadd1⟩:=sO hlb hc
      obtain⟨s2,d2,hs2,hsb2,hd2,hadd2⟩:=sO aC hsb1
      have hP:x*y≤340282366920938463426481119284349108225:=kE hxb hyb
      have hk1:hi'+d1+d2≤18446744073709551615∧hi'+d1≤18446744073709551615:=by
       have e1:=hp.out
       have e2:=hs1.out
       have e3:=hs2.out
       rw [cI] at e1 e2 e3
       omega
      obtain⟨hk1,hk2⟩:=hk1
      clear hP
      go_wp2_with fail
      go_roundw
      case rel=>
       refine⟨j+1,hi'+d1+d2,l2.set (i+j) s2,by omega,by omega,by go_num,eP,by show _=_;rw [List.length_set];exact hl2.out,fW hw2 _ (by rw [cI];omega),by rw [←dO];exact hb2.set _ _,
        MT (k:=i+j) (m:=i+m) G (by omega) (by rw [hl2.out];omega) hv2.out hok.out (by rw [hly.out];omega) hyk.out ?_,fun t ht=>?_,hr2.setCell _ _⟩
       ·have e1:=hp.out
        have e2:=hs1.out
        have e3:=hs2.out
        rw [cS,cS,←e1];omega
       ·rw [getD_set_ne (by omega)];exact h02.out t ht
      case measure=>simp [intOf];omega
     ·obtain rfl:j=m:=by omega
      obtain⟨o,hok,aC,hco⟩:=hb2.word hw2 (i:=i+j) (by rw [hl2.out];omega)
      have hfr:=hb2.frozen (i+j)
      go_wp2_with fail
      go_roundw
      case rel=>
       refine⟨i+1,l2.set (i+j) c,by omega,by go_num,by show _=_;rw [List.length_set];exact hl2.out,fW hw2 _ (by rw [cI];omega),by rw [←dO];exact hb2.set _ _,?_,fun t ht=>?_,hr2.setCell _ _⟩
       ·show _=_
        rw [show i+1+j=i+j+1 from by omega,xP (by rw [hl2.out];omega),hv2.out,List.take_of_length_le (l:=ys) (i:=j) (by rw [hly.out];omega),eE xs i (by rw [hlx.out];omega),hxk.out,dV,←bZ,cM x]
       ·rw [getD_set_ne (by omega)];exact h02.out t (by omega)
      case measure=>simp [intOf];omega
  ·obtain rfl:i=n:=by omega
   go_wp2_with fail
   go_end0
   have h:=hv.out
   rw [List.take_of_length_le (by rw [hll.out];omega),List.take_of_length_le (by rw [hlx.out];omega)] at h
   exact⟨l,rfl,hb,hwl,(show _=_ by rw [hll.out,hlz.out]),h,hr⟩
def zI (w:a7)(x y:Nat)(e:dM)(w':a7):Prop:=∃k,Hid (k=(wd x).length+(wd y).length)∧NewP w (x*y) k e w'
def HW (N:Nat):Prop:=∀(w:a7) (A B:Option aG) (n cap m cap':Nat) (xs ys:List Nat),Rd w A n cap xs→Rd w B m cap' ys→n+m<N→n+m≤274877906944→
 aQ aM 91 #[AT A n cap,AT B m cap'] w (zI w (nv xs) (nv ys))
theorem NewP.rd (hb:Bk w' g 36 (zs.map aY))(hw:Wf zs)(hl:zs.length=n)(hn:n≤1099511627776):Rd w' (some ⟨g,0,none⟩) n n zs:=by
 have:=hb.rd hw (o:=0) (n:=n) (cap:=n) (aS _) (by omega) (by rw [eB];omega)
 rwa [i9,List.take_of_length_le (by omega)] at this
theorem Upd.then_new {a b:a7}(h:Upd g w a)(e:Upd k a b)(hk:w.heap.size≤k):Upd g w b:=
 ⟨⟨e.by_.os.trans h.by_.os,e.by_.tape.trans h.by_.tape,e.by_.output.trans h.by_.output,a6 h.by_.size e.by_.size,
  fun i hi f=>(e.by_.block i (d4 hi h.by_.size) (fun e'=>by have:=iU e';omega)).trans (h.by_.block i hi f)⟩⟩
theorem Rd.drop_some {a:aG}(h:Rd w (some a) n cap xs){l:Nat}(hl:l<n):Rd w (some (a.add l)) (n-l) (cap-l) (xs.drop l):=by
 have f:=h.rv.le
 have:=h.cut (l:=l) (k:=n) (m:=cap) (by omega) (aS _) f (aS _)
 rw [if_neg (by omega),pD,List.take_of_length_le (by rw [h.len];omega)] at this
 exact this
theorem Rd.empty (h:Rd w A n cap xs):Rd w A 0 0 []:=by
 have:=h.take (k:=0) (m:=0) (bJ _) (aS _) (bJ _)
 simpa using this
def I3 (w:a7)(h r:Nat)(xs:List Nat)(u v:aI)(wc:a7):Prop:=
 ∃A0 A1 c0 c1,u= AT A0 h c0∧v= AT A1 r c1∧Rd wc A0 h c0 (xs.take h)∧Rd wc A1 r c1 (xs.drop h)∧Ext w wc
theorem MY (IH:HW N)(hz:Bk w g 36 (zs.map aY))(hzz:zs=dL (n+m) 0)(hx:Rd w A n n xs)(hy:Rd w B m m ys)(hna:∀a,A=some a→a.block≠g)(hnb:∀a,B=some a→a.block≠g)(hN:n+m=N)(hN2:N≤274877906944)(hm:24≤m)(hmn:m≤n)(hnm:n<2*m):aQ aM 117 #[AT (some ⟨g,0,none⟩) N N,AT A n n,AT B m m] w (qQ g zs (nv xs*nv ys) w):=by
 have HI:=Lib.hid IH
 have HZZ:=Lib.hid hzz
 clear IH hzz
 have hlx:=Lib.hid hx.len
 have hly:=Lib.hid hy.len
 obtain⟨hf,hh⟩:∃hf,hf=(n+1)/2:=⟨_,rfl⟩
 have hh1:n≤2*hf:=by omega
 have hh2:2*hf≤n+1:=by omega
 have hh3:((n:Int)+1)/2=(hf:Int):=by omega
 have hNi:N≤n+m:=by omega
 have hNj:n+m≤N:=by omega
 have HN:=Lib.hid hN
 clear hh hN
 obtain⟨a,_,rfl,_,_,_⟩:=hx.get (i:=0) (by omega)
 obtain⟨b,_,rfl,_,_,_⟩:=hy.get (i:=0) (by omega)
 go_enter Tryz.func117,Tryz.ntmps117
 go_upto_region 1 with (fail)
 go_cut [7,8] (fun u v wc=>I3 w hf (n-hf) xs u v wc)
 case first=>
  go_wp2_with fail
  go_quiet (fail)
  go_wp2_with fail
  go_meet
  case rel=>exact⟨_,_,_,_,rfl,rfl,(hx.take (k:=hf) (m:=hf) (by omega) (aS _) (by omega)).ext (by repeat (first | exact Ext.refl _ | assumption | apply Ext.drewN | apply Ext.drew | apply Ext.alloc)),(hx.drop_some (l:=hf) (by omega)).ext (by repeat (first | exact Ext.refl _ | assumption | apply Ext.drewN | apply Ext.drew | apply Ext.alloc)),(by repeat (first | exact Ext.refl _ | assumption | apply Ext.drewN | apply Ext.drew | apply Ext.alloc))⟩
 case rest=>
  obtain⟨A0,A1,c0,c1,rfl,rfl,hx0,hx1,hext1⟩:=hcut
  obtain⟨wx,rfl⟩:∃wx:a7,wx=wc:=⟨_,rfl⟩
  go_upto_region 2 with (fail)
  go_cut [9,10] (fun u v wc=>I3 wx hf (m-hf) ys u v wc)
  case first=>
   by_cases hhm:hf=m
   ·subst hhm
    have e0:hf-hf=0:=by omega
    go_wp2_with fail
    go_quiet (fail)
    go_wp2_with fail
    go_meet
    case rel=>
     have hy2:=(hy.ext hext1)
     refine⟨_,some b,_,0,rfl,by rw [e0],(hy2.take (k:=hf) (m:=hf) (by omega) (aS _) (by omega)).ext (by repeat (first | exact Ext.refl _ | assumption | apply Ext.drewN | apply Ext.drew | apply Ext.alloc)),?_,(by repeat (first | exact Ext.refl _ | assumption | apply Ext.drewN | apply Ext.drew | apply Ext.alloc))⟩
     rw [e0,List.drop_eq_nil_of_le (by rw [hly.out];omega)]
     exact hy2.empty.ext (by repeat (first | exact Ext.refl _ | assumption | apply Ext.drewN | apply Ext.drew | apply Ext.alloc))
   ·have hhm2:hf<m:=by omega
    go_wp2_with fail
    go_quiet (fail)
    go_wp2_with fail
    go_meet
    case rel=>
     have hy2:=(hy.ext hext1)
     exact⟨_,_,_,_,rfl,rfl,(hy2.take (k:=hf) (m:=hf) (by omega) (aS _) (by omega)).ext (by repeat (first | exact Ext.refl _ | assumption | apply Ext.drewN | apply Ext.drew | apply Ext.alloc)),(hy2.drop_some (l:=hf) (by omega)).ext (by repeat (first | exact Ext.refl _ | assumption | apply Ext.drewN | apply Ext.drew | apply Ext.alloc)),(by repeat (first | exact Ext.refl _ | assumption | apply Ext.drewN | apply Ext.drew | apply Ext.alloc))⟩
  case rest=>
   obtain⟨B0,B1,d0,d1,rfl,rfl,hy0,hy1,hext2⟩:=hcut
   have hx0':=hx0.ext hext2
   have hx1':=hx1.ext hext2
   have hz':=hz.ext (hext1.trans hext2)
   have hE:=hext1.trans hext2
   clear hx0 hx1 hext1 hext2
   go_wp2_with fail
   refine (HI.out _ _ _ _ _ _ _ _ _ hx0' hy0 (by omega) (by omega)).mono ?_
   rintro e w1 ⟨kl,hkl,gl,zl,rfl,hgl,hbl,hwl,hll,hvl,he1⟩
   have hlb:kl≤2*hf:=by
    rw [hkl.out]
    have h1:=gP hx0'.wf
    have h2:=gP hy0.wf
    rw [hx0'.len] at h1
    rw [hy0.len] at h2
    omega
   go_wp2_with fail
   refine (q7 (NewP.rd hbl hwl hll.out (by omega))).mono ?_
   rintro e w' ⟨tl,htl,rfl,hrl,rfl⟩
   rw [hvl.out] at htl hrl
   go_wp2_with fail
   refine (HI.out _ _ _ _ _ _ _ _ _ (hx1'.ext he1) (hy1.ext he1) (by omega) (by omega)).mono ?_
   rintro e w2 ⟨kh,hkh,gh,zh,rfl,hgh,hbh,hwh,hlh,hvh,he2⟩
   have hhb:kh≤(n-hf)+(m-hf):=by
    rw [hkh.out]
    have h1:=gP hx1'.wf
    have h2:=gP hy1.wf
    rw [hx1'.len] at h1
    rw [hy1.len] at h2
    omega
   go_wp2_with fail
   refine (q7 (NewP.rd hbh hwh hlh.out (by omega))).mono ?_
   rintro e w' ⟨th,hth,rfl,hrh,rfl⟩
   rw [hvh.out] at hth hrh
   have he12:=he1.trans he2
   go_wp2_with fail
   refine (DH (hx0'.ext he12) (by omega) (hx1'.ext he12) (by omega)).mono ?_
   rintro e w3 ⟨g3,z3,rfl,hg3,hb3,hw3,hl3,hv3,he3⟩
   go_wp2_with fail
   refine (DH (hy0.ext (he12.trans he3)) (by omega) (hy1.ext (he12.trans he3)) (by omega)).mono ?_
   rintro e w4 ⟨g4,z4,rfl,hg4,hb4,hw4,hl4,hv4,he4⟩
   have q3:max hf (n-hf)+1=hf+1:=by omega
   have q4:max hf (m-hf)+1=hf+1:=by omega
   rw [q3] at hl3
   rw [q4] at hl4
   rw [q3,q4]
   clear q3 q4
   go_wp2_with fail
   refine (HI.out _ _ _ _ _ _ _ _ _ (NewP.rd (hb3.ext he4) hw3 hl3.out (by omega)) (NewP.rd hb4 hw4 hl4.out (by omega)) (by omega) (by omega)).mono ?_
   rintro e w5 ⟨km,hkm,gm,zm,rfl,hgm,hbm,hwm,hlm,hvm,he5⟩
   have vx:Hid (nv xs=nv (xs.take hf)+WB^hf*nv (xs.drop hf)):=lN xs hf (by rw [hlx.out];omega)
   have vy:Hid (nv ys=nv (ys.take hf)+WB^hf*nv (ys.drop hf)):=lN ys hf (by rw [hly.out];omega)
   have bx:Hid (nv xs*nv ys<WB^N):=by
    show _<_
    have h1:=gW hx.wf
    have h2:=gW hy.wf
    rw [hlx.out] at h1
    rw [hly.out] at h2
    rw [←HN.out,dU]
    exact vU h1 h2
   have bl:Hid (nv (xs.take hf)*nv (ys.take hf)<WB^(2*hf)):=by
    show _<_
    have h1:=jF hx.wf hf
    have h2:=jF hy.wf hf
    rw [Nat.two_mul,dU]
    exact vU h1 h2
   rw [hv3.out,hv4.out] at hvm hkm
   generalize nv (xs.take hf)=X0 at*
   generalize nv (xs.drop hf)=X1 at*
   generalize nv (ys.take hf)=Y0 at*
   generalize nv (ys.drop hf)=Y1 at*
   have emid:Hid ((X0+X1)*(Y0+Y1)=X0*Y0+X1*Y1+(X0*Y1+X1*Y0)):=by
    show _=_
    simp only [dV,cS];omega
   have eall:Hid (nv xs*nv ys=X0*Y0+WB^(2*hf)*(X1*Y1)+WB^hf*(X0*Y1+X1*Y0)):=by
    show _=_
    rw [vx.out,vy.out,Nat.two_mul,dU]
    simp only [dV,cS,bZ]
    rw [Nat.mul_left_comm X0 (WB^hf) Y1,Nat.mul_left_comm X1 (WB^hf) Y1]
    omega
   have he25:=(he3.trans he4).trans he5
   have sl:tl≤km:=by
    have h1:=gW hwm
    rw [hlm.out,hvm.out,emid.out] at h1
    rw [htl.out]
    exact jY (by omega)
   have sh:th≤km:=by
    have h1:=gW hwm
    rw [hlm.out,hvm.out,emid.out] at h1
    rw [hth.out]
    exact jY (by omega)
   have hgl':gl<w1.heap.size:=hbl.lt
   have hgh':gh<w2.heap.size:=hbh.lt
   have s12:=he12.size
   have s2:=he2.size
   have s25:=he25.size
   have s5:=(he3.trans he4).size
   have n1:gl≠gm:=by omega
   have n2:gh≠gm:=by omega
   have hgz:g<w.heap.size:=hz.lt
   have sE:=hE.size
   have n3:g≠gm:=by have:=he12.size;omega
   have n4:g≠gl:=by omega
   have n5:g≠gh:=by have:=he1.size;omega
   have hkmb:km≤549755813888:=by
    rw [hkm.out]
    have h1:=gP hw3
    have h2:=gP hw4
    rw [hl3.out,hv3.out] at h1
    rw [hl4.out,hv4.out] at h2
    omega
   go_wp2_with fail
   refine (DJ hbm hwm hlm.out (hrl.ext (he2.trans he25)) (fun a ha _=>by cases ha;exact n1) sl (by omega) (by rw [eD,hvm.out,emid.out];omega)).mono ?_
   rintro e w6 ⟨z6,rfl,hb6,hw6,hl6,hv6,hu6⟩
   rw [eD,hvm.out,emid.out] at hv6
   go_wp2_with fail
   refine (DJ hb6 hw6 (by rw [hl6.out,hlm.out]) ((hrh.ext he25).upd hu6 (fun a ha=>by cases ha;exact n2)) (fun a ha _=>by cases ha;exact n2) sh (by omega) (by rw [eD,hv6.out];omega)).mono ?_
   rintro e w7 ⟨z7,rfl,hb7,hw7,hl7,hv7,hu7⟩
   rw [eD,hv6.out] at hv7
   have hu67:=hu6.trans hu7
   have hz7:Bk w7 g 36 (zs.map aY):=(hz'.ext (he12.trans he25)).upd hu67 n3
   have hrl7:Rd w7 (some ⟨gl,0,none⟩) tl tl (wd (X0*Y0)):=(hrl.ext (he2.trans he25)).upd hu67 (fun a ha=>by cases ha;exact n1)
   have hrh7:Rd w7 (some ⟨gh,0,none⟩) th th (wd (X1*Y1)):=(hrh.ext he25).upd hu67 (fun a ha=>by cases ha;exact n2)
   have hv7':Hid (nv z7=X0*Y1+X1*Y0):=by show _=_;rw [hv7.out];omega
   go_wp2_with ((with_reducible refine dE (some 55) ?_);refine wN G (.tmp 53) (.tmp 54) 22 22 G G G Tryz.underlying22 wY hz7 hrl7.rv (fun _=>rfl) ?fit (zD _) ?_;rotate_left;intro w8 hb8 hu8)
   case fit=>rw [List.length_map,HZZ.out,List.length_replicate];omega
   have hwt:Wf (wd (X0*Y0)):=nW _
   have tlN:tl≤N:=by rw [htl.out];exact jY (lG (by rw [eall.out];omega) bx.out)
   rw [←kG,List.take_of_length_le (l:=wd (X0*Y0)) (by rw [←htl.out];exact tlN),HZZ.out,wV] at hb8
   obtain⟨hv8,hl8⟩:=D4 (xs:=wd (X0*Y0)) (n:=n+m) (by rw [←htl.out];omega)
   rw [eD] at hv8
   have hw8:Wf (splice (dL (n+m) 0) 0 (wd (X0*Y0))):=H9 (mU _) hwt _
   generalize splice (dL (n+m) 0) 0 (wd (X0*Y0))=z8 at*
   have HV8:=Lib.hid hv8
   have HL8:=Lib.hid hl8
   clear hv8 hl8
   have hrh8:=hrh7.upd hu8 (fun a ha=>by cases ha;exact fun e=>n5 e.symm)
   have tot2:Hid (X0*Y0+WB^(2*hf)*(X1*Y1)<WB^N):=lG (by rw [eall.out];omega) bx.out
   have thN:th≤N-2*hf:=by
    rw [hth.out]
    refine jY ?_
    have h1:=tot2.out
    refine Nat.lt_of_mul_lt_mul_left (a:=WB^(2*hf)) ?_
    rw [←dU,show 2*hf+(N-2*hf)=N from by omega]
    omega
   have e2h:2*hf+(N-2*hf)=N:=by omega
   have hadd:=uD (o:=2*hf) (n:=N-2*hf) (cap:=N-2*hf) hb8 hw8 (by rw [HL8.out,HN.out,e2h]) hrh8 (fun a ha _=>by cases ha;exact fun e=>n5 e.symm) thN (by omega) (by omega) (by rw [HV8.out,eD,e2h];exact tot2.out)
   refine hadd.mono ?_
   clear hadd
   clear e2h
   rintro e w9 ⟨z9,rfl,hb9,hw9,hl9,hv9,hu9⟩
   rw [HV8.out,eD] at hv9
   have hz79:Bk w9 gm 36 (z7.map aY):=(hb7.upd hu8 (fun e=>n3 e.symm)).upd hu9 (fun e=>n3 e.symm)
   have hrm:Rd w9 (some ⟨gm,0,none⟩) km km z7:=NewP.rd hz79 hw7 (by rw [hl7.out,hl6.out,hlm.out]) (by omega)
   go_wp2_with fail
   have tot3:Hid (nv z9+WB^hf*nv z7<WB^(hf+(N-hf))):=by
    show _<_
    rw [hv9.out,hv7'.out,show hf+(N-hf)=N from by omega,←eall.out];exact bx.out
   have tmN:(wd (nv z7)).length≤N-hf:=by
    refine jY ?_
    have h1:=tot3.out
    refine Nat.lt_of_mul_lt_mul_left (a:=WB^hf) ?_
    rw [←dU]
    omega
   have hl9':Hid (z9.length=hf+(N-hf)):=by show _=_;rw [hl9.out,HL8.out,HN.out];omega
   have b9:hf≤1099511627776:=by omega
   have b10:N-hf≤1099511627776:=by omega
   have fin:∀z10 w10,Wf z10→Bk w10 g 36 (z10.map aY)→z10.length=z9.length→nv z10=nv z9+WB^hf*nv (wd (nv z7))→Upd g w9 w10→qQ g zs (nv xs*nv ys) w (.returned (.tuple #[])) w10:=by
    intro z10 w10 h1 h2 h3 h4 h5
    refine⟨z10,rfl,h2,h1,(show _=_ by rw [h3,hl9.out,HL8.out,HZZ.out,List.length_replicate]),?_,?_⟩
    ·show _=_
     rw [h4,eD,hv9.out,hv7'.out,←eall.out]
    ·have u5:Upd g w w5:=Upd.of_ext (hE.trans (he12.trans he25))
     have u7:Upd g w w7:=u5.then_new hu67 (by omega)
     exact ((u7.trans hu8).trans hu9).trans h5
   have FIN:=Lib.hid fin
   clear fin
   go_region_with (first
    | (go_at_call 114;refine (q7 (hrm.ext (by repeat (first | exact Ext.refl _ | assumption | apply Ext.drewN | apply Ext.drew | apply Ext.alloc)))).mono ?_;rintro e w' ⟨tm,htm,rfl,hrm2,rfl⟩)
    | (go_at_call 116;refine (uD (o:=hf) (n:=N-hf) (hb9.ext (by repeat (first | exact Ext.refl _ | assumption | apply Ext.drewN | apply Ext.drew | apply Ext.alloc))) hw9 hl9'.out hrm2 (fun a ha _=>by cases ha;exact fun e=>n3 e.symm) (by rw [htm.out];exact tmN) b10 b9 (by rw [eD];exact tot3.out)).mono ?_;rintro e w10 ⟨z10,rfl,hb10,hw10,hl10,hv10,hu10⟩))
   all_goals
    go_end0
    exact FIN.out z10 _ hw10 (by first | exact hb10 | exact hb10.drew | exact hb10.drewN _) hl10.out hv10.out (by first | exact (Upd.of_ext (by repeat (first | exact Ext.refl _ | assumption | apply Ext.drewN | apply Ext.drew | apply Ext.alloc))).trans hu10 | exact ((Upd.of_ext (by repeat (first | exact Ext.refl _ | assumption | apply Ext.drewN | apply Ext.drew | apply Ext.alloc))).trans hu10).drew)
theorem M0 (N:Nat):HW N:=by
 induction N with
 | zero=>intro w A B n cap m cap' xs ys _ _ h;omega
 | succ N IH=>
  intro w A B n cap m cap' xs ys hx hy hN hN2
  have HI:=Lib.hid IH
  clear IH
  go_enter Tryz.func91,Tryz.ntmps91
  go_wp2_with fail
  refine (q7 hx).mono ?_
  rintro e w' ⟨p,hp,rfl,hx1,rfl⟩
  go_wp2_with fail
  refine (q7 hy).mono ?_
  rintro e w' ⟨q,hq,rfl,hy1,rfl⟩
  have hpn:p≤n:=by rw [hp.out];have:=gP hx.wf;rw [hx.len] at this;exact this
  have hqm:q≤m:=by rw [hq.out];have:=gP hy.wf;rw [hy.len] at this;exact this
  go_upto_if 16 with (fail)
  go_cut [0,1] (fun u v wc=>∃A B p q xs' ys',u= AT A p p∧v= AT B q q∧Rd w A p p xs'∧Rd w B q q ys'∧Hid (nv xs'*nv ys'=nv xs*nv ys)∧q≤p∧p+q≤n+m∧Hid (p+q=(wd (nv xs)).length+(wd (nv ys)).length)∧w=wc)
  case first=>
   by_cases hpq:p<q
   ·go_wp2_with fail
    go_meet
    case rel=>exact⟨B,A,q,p,_,_,rfl,rfl,hy1,hx1,(show _=_ by rw [eD,eD,cM]),by omega,by omega,(show _=_ by rw [←hp.out,←hq.out];omega),rfl⟩
   ·go_wp2_with fail
    go_meet
    case rel=>exact⟨A,B,p,q,_,_,rfl,rfl,hx1,hy1,(show _=_ by rw [eD,eD]),by omega,by omega,(show _=_ by rw [←hp.out,←hq.out]),rfl⟩
  case rest=>
   clear hx1 hy1 hp hq hpn hqm hx hy
   obtain⟨A,B,p,q,xs',ys',rfl,rfl,hx,hy,hXY,hqp,hpq,hK,rfl⟩:=hcut
   have hlx:=Lib.hid hx.len
   have hly:=Lib.hid hy.len
   have hmk:=jV (P:=aM) Tryz.underlying22 iG G (by decide) ((p:Int)+(q:Int)) (by omega) (by omega)
   have et:((p:Int)+(q:Int)).toNat=p+q:=by omega
   rw [et] at hmk
   clear et
   obtain⟨g,hg⟩:∃g,w.heap.size=g:=⟨_,rfl⟩
   obtain⟨wa,hwa⟩:∃wa,w.alloc (.cells (zc (.int .u64 0) (p+q)) 36)=wa:=⟨_,rfl⟩
   have hbk:Bk wa g 36 ((dL (p+q) 0).map aY):=by
    rw [←hwa,←hg,←jC];exact Bk.new' _ _ _
   have hea:Ext w wa:=by rw [←hwa];exact (Ext.refl w).alloc _
   have hgs:w.heap.size≤g:=by rw [hg];exact aS _
   have hna:∀a,A=some a→0<p→a.block≠g:=fun a ha hp=>by have:=hx.rv.blk a ha (by have:=hx.rv.le;omega);omega
   have hnb:∀a,B=some a→0<q→a.block≠g:=fun a ha hp=>by have:=hy.rv.blk a ha (by have:=hy.rv.le;omega);omega
   have HNA:=Lib.hid hna
   have HNB:=Lib.hid hnb
   have HG:=Lib.hid hg
   have HWA:=Lib.hid hwa
   clear hna hnb hg hwa
   go_upto_region 6 with (fail)
   rw [HG.out,HWA.out]
   clear hmk HG HWA
   have fin:∀zs' w',Bk w' g 36 (zs'.map aY)→Wf zs'→zs'.length=p+q→nv zs'=nv xs'*nv ys'→Upd g wa w'→zI w (nv xs) (nv ys) (.returned (AT (some ⟨g,0,none⟩) (p+q) (p+q))) w':=by
    intro zs' w' h1 h2 h3 h4 h5
    exact⟨_,hK.out,g,zs',rfl,hgs,h1,h2,h3,by show _=_;rw [h4,hXY.out],h5.ext hea hgs⟩
   have FIN:=Lib.hid fin
   clear fin
   by_cases h24:q<24
   ·go_wp2_with fail
    refine (MW hbk G G (hx.ext hea) (hy.ext hea) HNA.out HNB.out (by omega) (by omega)).mono ?_
    rintro e w1 ⟨z1,rfl,hb1,hw1,hl1,hv1,hu1⟩
    go_wp2_with fail
    go_ret
    exact FIN.out z1 w1 hb1 hw1 (by rw [hl1.out,List.length_replicate]) hv1.out hu1
   ·have hb24:decide ((q:Int)<24)=false:=by simp;omega
    by_cases h2q:p<2*q
    ·go_wp2_with fail
     refine (MY (N:=p+q) (fun w A B n cap m cap' xs ys h1 h2 h3 h4=>HI.out w A B n cap m cap' xs ys h1 h2 (by omega) h4) hbk G (hx.ext hea) (hy.ext hea) (fun a ha=>HNA.out a ha (by omega)) (fun a ha=>HNB.out a ha (by omega)) G (by omega) (by omega) hqp h2q).mono ?_
     rintro e w1 ⟨z1,rfl,hb1,hw1,hl1,hv1,hu1⟩
     go_wp2_with fail
     go_ret
     exact FIN.out z1 w1 hb1 hw1 (by rw [hl1.out,List.length_replicate]) hv1.out hu1
    ·have hb2q:decide (2*(q:Int)≤(p:Int))=true:=by simp;omega
     obtain⟨a,_,rfl,_,_,_⟩:=hx.get (i:=0) (by omega)
     go_wp2_with fail
     go_loopw [6] (fun u wr=>∃(i:Nat) (l:List Nat),i≤p+q∧u= v4 (i:Int)∧Hid (l.length=p+q)∧Wf l∧Bk wr g 36 (l.map aY)∧Hid (nv l=nv (xs'.take i)*nv ys')∧Upd g wa wr) (fun u wr=>p+q-(intOf u).toNat)
     case atStart=>exact⟨0,_,bJ _,rfl,List.length_replicate,mU _,hbk,(show _=_ by rw [xO];simp [nv]),Upd.refl _ _⟩
     case round=>
      obtain⟨i,l,hi,rfl,hll,hwl,hb,hv,hr⟩:=hrel
      clear hbk
      by_cases hip:i<p
      ·obtain⟨e,he⟩:∃e,e=min (i+q) p:=⟨_,rfl⟩
       have he1:i<e:=by omega
       have he2:e≤p:=by omega
       have he3:e≤i+q:=by omega
       have hmin:min ((i:Int)+(q:Int)) (p:Int)=(e:Int):=by omega
       have HE:=Lib.hid he
       clear he
       have hxr:=(hx.ext hea).upd hr (fun a ha=>HNA.out a ha (by omega))
       have hyr:=(hy.ext hea).upd hr (fun a ha=>HNB.out a ha (by omega))
       have hcut:=hxr.cut (l:=i) (k:=e) (m:=e) (by omega) he2 (aS _) he2
       rw [if_neg (by omega),pD] at hcut
       have hnext:Hid (nv (xs'.take (i+q))*nv ys'=nv l+WB^i*(nv ((xs'.take e).drop i)*nv ys')):=by
        show _=_
        have e1:xs'.take (i+q)=xs'.take e:=by
         rw [HE.out]
         rcases Nat.le_total (i+q) p with h | h
         ·rw [gL h]
         ·rw [Nat.min_eq_right h,List.take_of_length_le (by rw [hlx.out];omega),List.take_of_length_le (by rw [hlx.out];omega)]
        have e2:=lN (xs'.take e) i (by rw [dK,hlx.out];omega)
        rw [List.take_take,gL (by omega)] at e2
        rw [e1,e2,dV,hv.out,bZ]
       have hbnd:Hid (nv l+WB^i*(nv ((xs'.take e).drop i)*nv ys')<WB^(i+(p+q-i))):=by
        show _<_
        rw [←hnext.out,show i+(p+q-i)=p+q from by omega,dU]
        have h1:=gW (oZ hx.wf (i+q))
        have h2:=gW hy.wf
        rw [hly.out] at h2
        have h3:WB^(xs'.take (i+q)).length≤WB^p:=i6 fF (by rw [dK,hlx.out];omega)
        exact vU (d4 h1 h3) h2
       have htm:(wd (nv ((xs'.take e).drop i)*nv ys')).length≤p+q-i:=by
        refine jY ?_
        have h1:=hbnd.out
        refine Nat.lt_of_mul_lt_mul_left (a:=WB^i) ?_
        rw [←dU]
        omega
       have hprod:nv ((xs'.take e).drop i)*nv ys'<WB^(p+q):=by
        have:=hbnd.out
        have h1:0<WB^i:=iO fF
        have h2:=Nat.le_mul_of_pos_left (nv ((xs'.take e).drop i)*nv ys') h1
        rw [show i+(p+q-i)=p+q from by omega] at this
        omega
       have HP:=Lib.hid hprod
       clear hprod
       have b1:i≤1099511627776:=by omega
       have b2:p+q-i≤1099511627776:=by omega
       have b3:e-i+q<N:=by omega
       have b4:e-i+q≤274877906944:=by omega
       have hgr:g<wr.heap.size:=hb.lt
       go_wp2_with fail
       have hk1b:(wd (nv ((xs'.take e).drop i))).length+(wd (nv ys')).length≤e-i+q:=by
        have h1:=gP hcut.wf
        have h2:=gP hy.wf
        rw [hcut.len] at h1
        rw [hy.len] at h2
        omega
       have htm':(wd (nv (wd (nv ((xs'.take e).drop i)*nv ys')))).length≤p+q-i:=by rw [eD];exact htm
       have hbnd':Hid (nv l+WB^i*nv (wd (nv ((xs'.take e).drop i)*nv ys'))<WB^(i+(p+q-i))):=by show _<_;rw [eD];exact hbnd.out
       have hll':Hid (l.length=i+(p+q-i)):=by show _=_;rw [hll.out];omega
       have hgwr:g<wr.heap.size:=hb.lt
       go_region_with (first
        | (go_at_call 91;refine (HI.out _ _ _ _ _ _ _ _ _ (hcut.ext (by repeat (first | exact Ext.refl _ | assumption | apply Ext.drewN | apply Ext.drew | apply Ext.alloc))) (hyr.ext (by repeat (first | exact Ext.refl _ | assumption | apply Ext.drewN | apply Ext.drew | apply Ext.alloc))) b3 b4).mono ?_;rintro er w1 ⟨k1,hk1,g1,z1,rfl,hg1,hb1,hw1,hl1,hv1,hx1⟩;have hr1:=NewP.rd hb1 hw1 hl1.out (by rw [hk1.out];omega);have hne1:g1≠g:=(by have h:wr.heap.size≤g1:=hg1;omega);have hx1':Ext wr w1:=Ext.trans (by repeat (first | exact Ext.refl _ | assumption | apply Ext.drewN | apply Ext.drew | apply Ext.alloc)) hx1)
        | (go_at_call 114;refine (q7 (hr1.ext (by repeat (first | exact Ext.refl _ | assumption | apply Ext.drewN | apply Ext.drew | apply Ext.alloc))) (hl:=(by rw [hk1.out];omega))).mono ?_;rintro er w' ⟨tm,htm2,rfl,hrm2,rfl⟩;rw [hv1.out] at htm2 hrm2)
        | (go_at_call 116;refine (uD (o:=i) (n:=p+q-i) (hb.ext hx1') hwl hll'.out hrm2 (fun a ha _=>by cases ha;exact hne1) (by rw [htm2.out];exact htm) b2 b1 hbnd'.out).mono ?_;rintro er w10 ⟨z10,rfl,hb10,hw10,hl10,hv10,hu10⟩))
       all_goals
        go_wp2_with fail
        go_roundw
        case rel=>
         refine⟨i+q,z10,by omega,by go_num,(show _=_ by rw [hl10.out,hll.out]),hw10,by first | exact hb10 | exact hb10.drew | exact hb10.drewN _,?_,?_⟩
         ·show _=_
          rw [hv10.out,eD];exact hnext.out.symm
         ·have u1:Upd g wa w10:=(hr.then_ext hx1').trans (Upd.trans (Upd.of_ext (by repeat (first | exact Ext.refl _ | assumption | apply Ext.drewN | apply Ext.drew | apply Ext.alloc))) hu10)
          first | exact u1 | exact u1.drew | exact u1.drewN _
        case measure=>simp [intOf];omega
      ·have hfull:Hid (nv l=nv xs'*nv ys'):=by
        show _=_
        rw [hv.out,List.take_of_length_le (by rw [hlx.out];omega)]
       go_wp2_with fail
       go_ret
       exact FIN.out l _ hb hwl hll.out hfull.out hr
theorem MX (hx:Rd w A n cap xs)(hy:Rd w B m cap' ys)(hN:n+m≤274877906944):aQ aM 91 #[AT A n cap,AT B m cap'] w (zI w (nv xs) (nv ys)):=M0 (n+m+1) w A B n cap m cap' xs ys hx hy (by omega) hN
theorem MU (hx:Rd w A n cap xs)(hy:Rd w B m cap' ys)(hN:n+m≤274877906944):aQ aM 61 #[AT A n cap,AT B m cap'] w (j9 w (nv xs*nv ys)):=by
 go_enter Tryz.func61,Tryz.ntmps61
 go_wp2_with fail
 refine (MX hx hy hN).mono ?_
 rintro e w1 ⟨k1,hk1,g1,z1,rfl,hg1,hb1,hw1,hl1,hv1,hx1⟩
 have hk1b:k1≤n+m:=by
  rw [hk1.out]
  have h1:=gP hx.wf
  have h2:=gP hy.wf
  rw [hx.len] at h1
  rw [hy.len] at h2
  omega
 go_wp2_with fail
 refine (jW (NewP.rd hb1 hw1 hl1.out (by omega))).mono ?_
 rintro e w2 ⟨A2,n2,c2,rfl,hn2,hr2,ho2,hx2⟩
 go_wp2_with fail
 go_ret
 rw [hv1.out] at hn2 hr2 ho2
 exact⟨A2,n2,c2,rfl,hn2,hr2,ho2.mono hx1.size,hx1.trans hx2⟩
theorem Rd.one (w:a7)(hx:x≤18446744073709551615):Rd (w.alloc (.cells #[AI (x:Int)] 36)) (some ⟨w.heap.size,0,none⟩) 1 1 [x]:=
 ⟨Rv.one w 36 _,zB (by rw [cI];omega)⟩
theorem Own.word (h:Own w base 36 1 A n cap (xs.map aY))(hw:Wf xs)(hi:i<n):∃g x,A=some ⟨g,0,none⟩∧base≤g∧Hid (xs.getD i 0=x)∧x≤18446744073709551615∧w.cell? ⟨g,i,none⟩=some (AI (x:Int))∧w.frozen? ⟨g,i,none⟩=false∧
   ∀u:Nat,Own (w.setCell ⟨g,i,none⟩ (AI (u:Int))) base 36 1 (some ⟨g,0,none⟩) n cap ((xs.set i u).map aY):=by
 have q:xs.length=n:=by simpa using h.rv.len
 rcases h with⟨rfl,rfl,rfl,_⟩ | ⟨g,cs,rfl,hb,p,hn,hm,hl,D⟩
 ·omega
 ·have o:=p8 hw i
  have f:i<cs.length:=by omega
  refine⟨g,_,rfl,hb,rfl,by rw [cI] at o;omega,?_,p.frozen i,fun u=>?_⟩
  ·rw [p.cell f]
   have:cs.getD i undef=(cs.take (n*1)).getD i undef:=by
    simp only [bE,jO]
    rw [if_pos (by omega)]
   rw [this,D]
   simp [bE,fY,cA (show i<xs.length by omega)]
  ·refine Own.mk_ hb (p.set i _) hn hm (by rw [List.length_set];exact hl) ?_
   rw [←dO,←D,List.take_set]
def TO (w:a7)(q r:Nat)(e:dM)(w':a7):Prop:=
 ∃A n cap r',e= .returned (.tuple #[AT A n cap,AI (r':Nat),v4 0])∧Hid (r'=r)∧r'≤18446744073709551615∧Hid (n=(wd q).length)∧Rd w' A n cap (wd q)∧Own w' w.heap.size 36 1 A n cap ((wd q).map aY)∧Ext w w'
theorem J3 {rest r' v:Nat}(hk:k<l.length)(h:WB^(k+1)*nv (l.drop (k+1))*v+WB^(k+1)*rest+nv (l.take (k+1))=V)(hx:l.getD k 0=x)(hs:rest*WB+x=d*v+r'):WB^k*nv ((l.set k d).drop k)*v+WB^k*r'+nv ((l.set k d).take k)=V:=by
 have D:(l.set k d).take k=l.take k:=by rw [List.take_set_of_le (aS k)]
 have f:(l.set k d).drop k=d::l.drop (k+1):=by
  rw [mZ (by rw [List.length_set];exact hk)]
  congr 1
  ·simp
  ·rw [List.drop_set_of_lt (by omega)]
 rw [D,f,nH,←h,eE l k hk,hx,dJ]
 have p:WB^k*(rest*WB+x)=WB^k*(d*v+r'):=by rw [hs]
 have q:WB^k*(d+WB*nv (l.drop (k+1)))*v=WB^k*WB*nv (l.drop (k+1))*v+WB^k*(d*v):=by
  rw [cS,dV,Nat.add_comm,←bZ (WB^k) WB,bZ (WB^k) d]
 have o:WB^k*WB*rest=WB^k*(rest*WB):=by rw [bZ,cM WB rest]
 rw [q,o]
 simp only [cS] at p
 omega
theorem RI (hx:Rd w A n cap xs)(hl:n≤1099511627775){v:Nat}(hv0:v≠0)(hvb:v≤18446744073709551615):aQ aM 86 #[AT A n cap,AI (v:Int)] w (TO w (nv xs/v) (nv xs%v)):=by
 have h0:((v:Int)==0)=false:=by simp;omega
 go_enter Tryz.func86,Tryz.ntmps86
 go_wp2_with fail
 refine (jW hx).mono ?_
 rintro e w1 ⟨A1,n1,c1,rfl,hn1,hr1,ho1,hx1⟩
 have hn1b:n1≤n:=by
  have:=gP hx.wf
  rw [hn1.out,←hx.len];exact this
 clear h0
 have h0:((v:Int)==0)=false:=by simp;omega
 go_wp2_with fail
 obtain⟨l0,hl0⟩:∃l0,wd (nv xs)=l0:=⟨_,rfl⟩
 have hnl0:Hid (nv l0=nv xs):=(show _=_ by rw [←hl0,eD])
 rw [hl0] at hr1 ho1
 have hll0:Hid (l0.length=n1):=hr1.len
 have hwl0:=hr1.wf
 clear hr1 hl0
 go_loopw [9,8] (fun a b wr=>∃(k r:Nat) (l:List Nat),k≤n1∧r<v∧a= v4 ((k:Int)-1)∧b= AI (r:Int)∧Hid (l.length=n1)∧Wf l∧Own wr w.heap.size 36 1 A1 n1 c1 (l.map aY)∧
  Hid (WB^k*nv (l.drop k)*v+WB^k*r+nv (l.take k)=nv xs)∧Ext w wr) (fun a b wr=>(intOf a+1).toNat)
 case atStart=>exact⟨n1,0,l0,aS _,by omega,by go_num,rfl,hll0,hwl0,ho1,(show _=_ by rw [List.drop_of_length_le (by rw [hll0.out];exact aS _),List.take_of_length_le (by rw [hll0.out];exact aS _),hnl0.out];simp [nv]),hx1⟩
 case round=>
  obtain⟨k,r,l,hk,hr,rfl,rfl,hll,hwl,ho,hV,hxr⟩:=hrel
  clear hll0 hwl0 ho1 hnl0
  by_cases hk0:0<k
  ·obtain⟨k,rfl⟩:∃j,k=j+1:=⟨k-1,by omega⟩
   obtain⟨g,x,rfl,hg,hxk,hxb,hc,hfr,hset⟩:=ho.word hwl (i:=k) (by omega)
   have ek:((k+1:Nat):Int)-1=(k:Int):=by omega
   rw [ek]
   go_wp2_with fail
   refine (GR hr hxb hvb _).mono ?_
   rintro e w2 ⟨d,r',hd,hr',hdb,hrv,rfl,m2,hm2⟩
   have hx2:Ext wr w2:=by rw [hm2];exact (Ext.refl wr).drewN m2
   clear hm2
   have ho2:=ho.ext hx2
   obtain⟨g',x',hg',_,_,_,hc2,hfr2,hset2⟩:=ho2.word hwl (i:=k) (by omega)
   cases hg'
   go_wp2_with fail
   go_roundw
   case rel=>
    refine⟨k,r',l.set k d,by omega,hrv,rfl,rfl,(show _=_ by rw [List.length_set];exact hll.out),fW hwl k (by rw [cI];omega),hset2 d,?_,(hxr.trans hx2).setCell hg _⟩
    refine J3 (by rw [hll.out];omega) hV.out hxk.out ?_
    rw [hd.out,hr'.out,cM _ v];exact (m5 _ _).symm
   case measure=>simp [intOf]
  ·obtain rfl:k=0:=by omega
   have hVl:nv l*v+r=nv xs:=by simpa [nv] using hV.out
   have hq:nv l=nv xs/v:=by rw [←hVl,cM,o0 (by omega),gC hr];rfl
   have hrr:Hid (r=nv xs%v):=(show _=_ by rw [←hVl,cM,Nat.mul_add_mod,fM hr])
   have HQ:=Lib.hid hq
   clear hq hVl
   have ek:((0:Nat):Int)-1= -1:=rfl
   rw [ek]
   go_wp2_with fail
   refine (jW (ho.rd hwl)).mono ?_
   rintro e w2 ⟨A2,n2,c2,rfl,hn2,hr2,ho2,hx2⟩
   rw [HQ.out] at hn2 hr2 ho2
   go_wp2_with fail
   go_ret3
   exact⟨A2,n2,c2,r,rfl,hrr,by omega,hn2,hr2,ho2.mono hxr.size,hxr.trans hx2⟩
def TV (w:a7)(v n:Nat)(e:dM)(w':a7):Prop:=
 ∃g zs,e= .returned (AT (some ⟨g,0,none⟩) n n)∧w.heap.size≤g∧Bk w' g 36 (zs.map aY)∧Wf zs∧Hid (zs.length=n)∧Hid (nv zs=v)∧Ext w w'
theorem KU (hs:s<64):x*2^s%18446744073709551616=(x%2^(64-s))*2^s∧x*2^s=x*2^s%18446744073709551616+WB*(x/2^(64-s)):=by
 have e:18446744073709551616=2^(64-s)*2^s:=by rw [←dU,iV (by omega)]
 have f:x*2^s%18446744073709551616=(x%2^(64-s))*2^s:=by rw [e,vT]
 refine⟨f,?_⟩
 rw [f,cI,e]
 have h:=jN x (2^(64-s))
 conv=>lhs;rw [←h]
 rw [dV,bZ,cM (x/2^(64-s)),←bZ]
theorem KW {c r30 r32:Nat}(hs:s<64)(hx:xs.getD i 0=x)(hi:i<l.length)(hc:c<2^s)(h30:r30=x*2^s%18446744073709551616)(h32:r32=r30||| c)(hd:d=x/2^(64-s))(h:nv (l.take i)+WB^i*c=nv (xs.take i)*2^s):nv ((l.set i r32).take (i+1))+WB^(i+1)*d=nv (xs.take (i+1))*2^s:=by
 obtain⟨D,o⟩:=KU (x:=x) hs
 have p:r32=r30+c:=by rw [h32,h30,D,xM hc]
 have q:nv (xs.take (i+1))=nv (xs.take i)+WB^i*x:=by
  by_cases f:i<xs.length
  ·rw [eE xs i f,hx]
  ·have:x=0:=by rw [←hx];simp [bE,gM (show xs.length≤i by omega)]
   rw [this,List.take_of_length_le (by omega),List.take_of_length_le (by omega)];simp
 rw [xP hi,q,dV,←h,p,hd,dJ,bZ (WB^i) WB,bZ (WB^i) x,o,←h30]
 simp only [cS]
 omega
theorem KX (hx:x≤18446744073709551615)(hs:s<64):x/2^(64-s)<2^s:=by
 refine tA ?_
 rw [←dU,iV (by omega)]
 omega
theorem FX (hx:Rd w A m cap xs)(_hl:m≤1099511627775)(hs:s<64)(hn:n≤1099511627776)(hmn:m≤n)(hfit:nv xs*2^s<WB^n):aQ aM 107 #[AT A m cap,AI (s:Int),v4 (n:Int)] w (TV w (nv xs*2^s) n):=by
 have hlx:=Lib.hid hx.len
 have HF:=Lib.hid hfit
 clear hfit
 have hsi:(s:Int)≤63:=by omega
 have hmk:=jV (P:=aM) Tryz.underlying22 iG G (by decide) (n:Int) (by omega) (by omega)
 rw [jQ] at hmk
 go_enter Tryz.func107,Tryz.ntmps107
 go_wp2_with fail
 clear hmk
 obtain⟨g,hg⟩:∃g,w.heap.size=g:=⟨_,rfl⟩
 rw [hg]
 obtain⟨wa,hwa⟩:∃wa,w.alloc (.cells (zc (.int .u64 0) n) 36)=wa:=⟨_,rfl⟩
 rw [hwa]
 have hbk:Bk wa g 36 ((dL n 0).map aY):=by
  rw [←hwa,←hg,←jC];exact Bk.new' _ _ _
 have hea:Ext w wa:=by rw [←hwa];exact (Ext.refl w).alloc _
 have hgs:w.heap.size≤g:=by rw [hg];exact aS _
 clear hg hwa
 go_loopw [15,8] (fun u v wr=>∃(i c:Nat) (l:List Nat),i≤n∧c≤18446744073709551615∧Hid (c<2^s)∧u= v4 (i:Int)∧v= AI (c:Int)∧Hid (l.length=n)∧Wf l∧Bk wr g 36 (l.map aY)∧
  Hid (nv (l.take i)+WB^i*c=nv (xs.take i)*2^s)∧Ext w wr) (fun u v wr=>n-(intOf u).toNat)
 case atStart=>exact⟨0,0,_,bJ _,bJ _,m4 s,rfl,rfl,List.length_replicate,mU _,hbk,by simp [Hid,nv],hea⟩
 case round=>
  obtain⟨i,c,l,hi,hcb,hc,rfl,rfl,hll,hwl,hb,hv,hr⟩:=hrel
  clear hbk hea
  by_cases hin:i<n
  ·obtain⟨o,ho,_,hco⟩:=hb.word hwl (i:=i) (by rw [hll.out];omega)
   have hfr:=hb.frozen i
   have key:∀x r32 d r30:Nat,xs.getD i 0=x→r30=x*2^s%18446744073709551616→r32=r30||| c→d=x/2^(64-s)→r32≤18446744073709551615→x≤18446744073709551615→∀w2,Upd g wr w2→Bk w2 g 36 ((l.set i r32).map aY)→Ext w w2→
     ∃(j c:Nat) (l:List Nat),j≤n∧c≤18446744073709551615∧Hid (c<2^s)∧gK .i64 ((i:Int)+1)= v4 (j:Int)∧gK .u64 (d:Int)= AI (c:Int)∧Hid (l.length=n)∧Wf l∧Bk w2 g 36 (l.map aY)∧
      Hid (nv (l.take j)+WB^j*c=nv (xs.take j)*2^s)∧Ext w w2:=by
    intro x r32 d r30 h1 h2 h3 h4 h5 h6 w2 hu hb2 he
    have h7:=KX h6 hs
    rw [←h4] at h7
    have h8:2^s≤2^63:=i6 (by omega) (by omega)
    exact⟨i+1,d,l.set i r32,by omega,by omega,h7,rfl,rfl,(show _=_ by rw [List.length_set];exact hll.out),fW hwl i (by rw [cI];omega),hb2,KW hs h1 (by rw [hll.out];omega) hc.out h2 h3 h4 hv.out,he⟩
   have KEY:=Lib.hid key
   clear key
   have hs64:s≤64:=by omega
   by_cases him:i<m
   ·obtain⟨a,x,rfl,hxk,hxb,hcx⟩:=(hx.ext hr).get (i:=i) (by omega)
    by_cases hs0:0<s
    ·go_wp2_with (first
      | ((with_reducible refine dE (some 30) ?_);refine dS rfl rfl rfl rfl rfl (oA hs64) ?_;intro r30 h30 hb30)
      | ((with_reducible refine dE (some 32) ?_);refine dS rfl rfl rfl rfl rfl (rL hb30 hcb) ?_ (hf:=(by have:=nZ (n:=64) (x:=r30) (y:=c) (by omega) (by omega);omega));intro r32 h32 hb32)
      | ((with_reducible refine dE (some 38) ?_);refine dS rfl rfl rfl rfl rfl (o8 (x:=64) (y:=s) (by omega)) ?_;intro r38 h38 hb38;obtain rfl:r38=64-s:=(by have:=h38.out;omega))
      | ((with_reducible refine dE (some 39) ?_);refine dS rfl rfl rfl rfl rfl (mE (s:=64-s) (by omega)) ?_ (hf:=(by have:=i8 x (2^(64-s));omega));intro d hd hdb))
     go_roundw
     case rel=>exact KEY.out x r32 d r30 hxk.out h30.out h32.out hd.out hb32 hxb _ ((Upd.refl _ _).setCell _ _) (by rw [←dO];exact hb.set _ _) (hr.setCell hgs _)
     case measure=>simp [intOf];omega
    ·go_wp2_with (first
      | ((with_reducible refine dE (some 30) ?_);refine dS rfl rfl rfl rfl rfl (oA hs64) ?_;intro r30 h30 hb30)
      | ((with_reducible refine dE (some 32) ?_);refine dS rfl rfl rfl rfl rfl (rL hb30 hcb) ?_ (hf:=(by have:=nZ (n:=64) (x:=r30) (y:=c) (by omega) (by omega);omega));intro r32 h32 hb32))
     go_roundw
     case rel=>exact KEY.out x r32 0 r30 hxk.out h30.out h32.out (by rw [show s=0 from by omega,gC (by omega)]) hb32 hxb _ ((Upd.refl _ _).setCell _ _) (by rw [←dO];exact hb.set _ _) (hr.setCell hgs _)
     case measure=>simp [intOf];omega
   ·have hx0:Hid (xs.getD i 0=0):=by
     show _=_
     rw [bE,gM (by rw [hlx.out];omega)];rfl
    by_cases hs0:0<s
    ·go_wp2_with (first
      | ((with_reducible refine dE (some 30) ?_);refine dS rfl rfl rfl rfl rfl (oA (x:=0) hs64) ?_;intro r30 h30 hb30)
      | ((with_reducible refine dE (some 32) ?_);refine dS rfl rfl rfl rfl rfl (rL hb30 hcb) ?_ (hf:=(by have:=nZ (n:=64) (x:=r30) (y:=c) (by omega) (by omega);omega));intro r32 h32 hb32)
      | ((with_reducible refine dE (some 38) ?_);refine dS rfl rfl rfl rfl rfl (o8 (x:=64) (y:=s) (by omega)) ?_;intro r38 h38 hb38;obtain rfl:r38=64-s:=(by have:=h38.out;omega))
      | ((with_reducible refine dE (some 39) ?_);refine dS rfl rfl rfl rfl rfl (mE (x:=0) (s:=64-s) (by omega)) ?_ (hf:=(by have:=i8 0 (2^(64-s));omega));intro d hd hdb))
     go_roundw
     case rel=>exact KEY.out 0 r32 d r30 hx0.out h30.out h32.out hd.out hb32 (by omega) _ ((Upd.refl _ _).setCell _ _) (by rw [←dO];exact hb.set _ _) (hr.setCell hgs _)
     case measure=>simp [intOf];omega
    ·go_wp2_with (first
      | ((with_reducible refine dE (some 30) ?_);refine dS rfl rfl rfl rfl rfl (oA (x:=0) hs64) ?_;intro r30 h30 hb30)
      | ((with_reducible refine dE (some 32) ?_);refine dS rfl rfl rfl rfl rfl (rL hb30 hcb) ?_ (hf:=(by have:=nZ (n:=64) (x:=r30) (y:=c) (by omega) (by omega);omega));intro r32 h32 hb32))
     go_roundw
     case rel=>exact KEY.out 0 r32 0 r30 hx0.out h30.out h32.out (by simp) hb32 (by omega) _ ((Upd.refl _ _).setCell _ _) (by rw [←dO];exact hb.set _ _) (hr.setCell hgs _)
     case measure=>simp [intOf];omega
  ·obtain rfl:i=n:=by omega
   go_wp2_with fail
   go_ret
   refine⟨g,l,rfl,hgs,hb,hwl,hll,?_,hr⟩
   have h1:=hv.out
   rw [List.take_of_length_le (by rw [hll.out];exact aS _),List.take_of_length_le (by rw [hlx.out];exact hmn)] at h1
   have h2:=HF.out
   show _=_
   rcases kF c with h0 | h0
   ·rw [h0,fX] at h1;exact h1
   ·have:=Nat.le_mul_of_pos_right (WB^i) h0
    omega
def I5 (g:Nat)(zs:List Nat)(K:Nat)(P:Nat→Nat→Prop)(w w':a7):Prop:=
 ∃zs' c,Bk w' g 36 (zs'.map aY)∧Wf zs'∧Hid (zs'.length=zs.length)∧Hid (zs'.drop K=zs.drop K)∧c≤1∧Hid (P (nv zs') c)∧Upd g w w'
theorem uT (h:i<K)(x:Nat):(l.set i x).drop K=l.drop K:=by rw [List.drop_set_of_lt h]
theorem RH {o:Nat}(hz:Bk w g 36 (zs.map aY))(hwz:Wf zs)(hy:Rd w B m cap' ys)(hne:∀a,B=some a→a.block≠g)(hK:o+m+1≤zs.length)(hm:m≤1099511627776)(_ho:o≤1099511627776):aQ aM 110 #[AT (some ⟨g,o,none⟩) (m+1) cap,AT B m cap'] w (fun e w'=>e= .returned (.tuple #[])∧I5 g zs (o+m+1) (fun v c=>v+WB^(o+m+1)*c=nv zs+WB^o*nv ys) w w'):=by
 have hly:=Lib.hid hy.len
 have HK:=Lib.hid hK
 clear hK
 go_enter Tryz.func110,Tryz.ntmps110
 go_wp2_with fail
 go_loopw [8,4] (fun u v wr=>∃(i c:Nat) (l:List Nat),i≤m∧c≤1∧u= v4 (i:Int)∧v= AI (c:Int)∧Hid (l.length=zs.length)∧Wf l∧Bk wr g 36 (l.map aY)∧Hid (l.drop (o+m+1)=zs.drop (o+m+1))∧
  Hid (nv l+WB^(o+i)*c=nv zs+WB^o*nv (ys.take i))∧Upd g w wr) (fun u v wr=>m-(intOf u).toNat)
 case atStart=>exact⟨0,0,zs,bJ _,bJ _,rfl,rfl,rfl,hwz,hz,rfl,by simp [Hid,nv],Upd.refl _ _⟩
 case round=>
  obtain⟨i,c,l,hi,hc,rfl,rfl,hll,hwl,hb,hdr,hv,hr⟩:=hrel
  by_cases him:i<m
  ·obtain⟨a,y,rfl,hyk,hyb,hcy⟩:=(hy.upd hr hne).get (i:=i) (by omega)
   obtain⟨z,hzk,hzb,hcz⟩:=hb.word hwl (i:=o+i) (by rw [hll.out];have:=HK.out;omega)
   have hfr:=hb.frozen (o+i)
   obtain⟨s,d,hs,hsb,hd,hadd⟩:=vL hc hzb hyb
   go_wp2_with fail
   go_region
   go_wp2_with fail
   go_roundw
   case rel=>exact⟨i+1,d,l.set (o+i) s,by omega,hd,by go_num,rfl,by show _=_;rw [List.length_set];exact hll.out,fW hwl _ (by rw [cI];omega),by rw [←dO];exact (hb.set _ _).drew,
    (show _=_ by rw [uT (by omega)];exact hdr.out),GZ (by rw [hll.out];have:=HK.out;omega) hv.out hzk.out (by rw [hly.out];omega) hyk.out hs.out,(hr.setCell _ _).drew⟩
   case measure=>simp [intOf];omega
  ·obtain rfl:i=m:=by omega
   obtain⟨z,hzk,hzb,hcz⟩:=hb.word hwl (i:=o+i) (by rw [hll.out];have:=HK.out;omega)
   have hfr:=hb.frozen (o+i)
   go_wp2_with ((with_reducible refine dE (some 34) ?_);refine dS G G G G G wU ?_;intro s hs hsb)
   go_end0
   refine⟨rfl,l.set (o+i) s,(z+c)/18446744073709551616,by rw [←dO];exact hb.set _ _,fW hwl _ (by rw [cI];omega),(show _=_ by rw [List.length_set];exact hll.out),(show _=_ by rw [uT (by omega)];exact hdr.out),by omega,?_,hr.setCell _ _⟩
   have h:=GY (k:=o+i) (c:=c) (s:=s) (d:=(z+c)/18446744073709551616) (by rw [hll.out];have:=HK.out;omega) hv.out hzk.out (by rw [hs.out,cI];exact jN _ _)
   rwa [List.take_of_length_le (by rw [hly.out];exact aS _)] at h
theorem JY {o c t z lo:Nat}(hi2:o+i<l.length)(h:nv l+WB^o*(d*nv (ys.take i))=V+WB^(o+i)*(c+t))(hz:l.getD (o+i) 0=z)(hy:i<ys.length)(hyk:ys.getD i 0=y)(hp:lo+WB*hi=d*y)(ha:lo2+WB*cc=lo+c)(hs:s+lo2+t=z+WB*u):nv (l.set (o+i) s)+WB^o*(d*nv (ys.take (i+1)))=V+WB^(o+i+1)*((hi+cc)+u):=by
 have p:=nG hi2 s
 rw [hz] at p
 rw [eE ys i hy,hyk,cS d,cS (WB^o),show WB^o*(d*(WB^i*y))=WB^(o+i)*(d*y) from by rw [dU,Nat.mul_left_comm d,←bZ (WB^o)],dJ,bZ (WB^(o+i)),←hp]
 have f:WB^(o+i)*(s+lo2+t)=WB^(o+i)*(z+WB*u):=by rw [hs]
 have q:WB^(o+i)*(lo2+WB*cc)=WB^(o+i)*(lo+c):=by rw [ha]
 simp only [cS] at f q h⊢
 omega
theorem JX {c t z A:Nat}(hi2:k<l.length)(h:nv l+A=V+WB^k*(c+t))(hz:l.getD k 0=z)(hs:s+c+t=z+WB*u):nv (l.set k s)+A=V+WB^(k+1)*u:=by
 have o:=nG hi2 s
 rw [hz] at o
 rw [dJ,bZ]
 have f:WB^k*(s+c+t)=WB^k*(z+WB*u):=by rw [hs]
 simp only [cS] at f h⊢
 omega
theorem JZ {lo c:Nat}(hd:d≤18446744073709551615)(hy:y≤18446744073709551615)(hc:c≤18446744073709551615)(hp:lo+WB*hi=d*y)(ha:lo2+WB*cc=lo+c):hi+cc≤18446744073709551615:=by
 have f:d*y≤18446744073709551615*18446744073709551615:=kE hd hy
 rw [cI] at hp ha
 omega
theorem RE {o:Nat}(hz:Bk w g 36 (zs.map aY))(hwz:Wf zs)(hy:Rd w B m cap' ys)(hne:∀a,B=some a→a.block≠g)(hK:o+m+1≤zs.length)(hm:m≤1099511627776)(_ho:o≤1099511627776)(hd:d≤18446744073709551615):aQ aM 109 #[AT (some ⟨g,o,none⟩) (m+1) cap,AT B m cap',AI (d:Int)] w (fun e w'=>∃b:Bool,e= .returned (.bool b)∧I5 g zs (o+m+1) (fun v c=>(b=true↔c=1)∧v+WB^o*(d*nv ys)=nv zs+WB^(o+m+1)*c) w w'):=by
 have hly:=Lib.hid hy.len
 have HK:=Lib.hid hK
 clear hK
 go_enter Tryz.func109,Tryz.ntmps109
 go_wp2_with fail
 go_loopw [16,7,8] (fun u v x wr=>∃(i c t:Nat) (l:List Nat),i≤m∧c≤18446744073709551615∧t≤1∧u= v4 (i:Int)∧v= AI (c:Int)∧x= AI (t:Int)∧Hid (l.length=zs.length)∧Wf l∧Bk wr g 36 (l.map aY)∧Hid (l.drop (o+m+1)=zs.drop (o+m+1))∧
  Hid (nv l+WB^o*(d*nv (ys.take i))=nv zs+WB^(o+i)*(c+t))∧Upd g w wr) (fun u v x wr=>m-(intOf u).toNat)
 case atStart=>exact⟨0,0,0,zs,bJ _,bJ _,bJ _,rfl,rfl,rfl,rfl,hwz,hz,rfl,by simp [Hid,nv],Upd.refl _ _⟩
 case round=>
  obtain⟨i,c,t,l,hi,hc,ht,rfl,rfl,rfl,hll,hwl,hb,hdr,hv,hr⟩:=hrel
  by_cases him:i<m
  ·obtain⟨a,y,rfl,hyk,hyb,hcy⟩:=(hy.upd hr hne).get (i:=i) (by omega)
   obtain⟨z,hzk,hzb,hcz⟩:=hb.word hwl (i:=o+i) (by rw [hll.out];have:=HK.out;omega)
   have hfr:=hb.frozen (o+i)
   go_wp2_with fail
   refine (bits_Mul64 d y hd hyb _).mono ?_
   rintro e w1 ⟨hi',lo,hp,hhb,hlb,rfl,rfl⟩
   obtain⟨lo2,cc,hlo2,hlo2b,hccb,hadd⟩:=sO hlb hc
   obtain⟨s,u,hs,hsb,hu,hsub⟩:=tJ ht hzb hlo2b
   have hcar:(hi':Int)+(cc:Int)≤18446744073709551615:=by have:=JZ hd hyb hc hp.out hlo2.out;omega
   go_wp2_with fail
   go_roundw
   case rel=>exact⟨i+1,hi'+cc,u,l.set (o+i) s,by omega,by omega,hu,by go_num,by go_num,rfl,by show _=_;rw [List.length_set];exact hll.out,fW hwl _ (by rw [cI];omega),by rw [←dO];exact (hb.set _ _),
    (show _=_ by rw [uT (by omega)];exact hdr.out),JY (by rw [hll.out];have:=HK.out;omega) hv.out hzk.out (by rw [hly.out];omega) hyk.out hp.out hlo2.out hs.out,(hr.setCell _ _)⟩
   case measure=>simp [intOf];omega
  ·obtain rfl:i=m:=by omega
   obtain⟨z,hzk,hzb,hcz⟩:=hb.word hwl (i:=o+i) (by rw [hll.out];have:=HK.out;omega)
   have hfr:=hb.frozen (o+i)
   obtain⟨s,u,hs,hsb,hu,hsub⟩:=tJ ht hzb hc
   have hfin:=JX (k:=o+i) (by rw [hll.out];have:=HK.out;omega) hv.out hzk.out hs.out
   rw [List.take_of_length_le (by rw [hly.out];exact aS _)] at hfin
   have HFIN:=Lib.hid hfin
   clear hfin
   go_wp2_with fail
   go_ret
   refine⟨_,rfl,l.set (o+i) s,u,by rw [←dO];exact hb.set _ _,fW hwl _ (by rw [cI];omega),(show _=_ by rw [List.length_set];exact hll.out),(show _=_ by rw [uT (by omega)];exact hdr.out),hu,⟨?_,HFIN.out⟩,hr.setCell _ _⟩
   simp
   omega
def I4 (u2 u1 u0 v1 v0:Nat)(w:a7)(e:dM)(w':a7):Prop:=
 ∃d:Nat,e= .returned (AI (d:Int))∧d≤18446744073709551615∧Hid (d*(v1*WB+v0)≤(u2*WB+u1)*WB+u0)∧Hid (d=18446744073709551615∨(u2*WB+u1)*WB+u0<(d+1)*(v1*WB+v0))∧∃m,w'=w.drewN m
theorem OJ {D T:Nat}(h1:d≤18446744073709551615)(h2:d*V≤T)(h3:d=18446744073709551615∨T<(d+1)*V)(k1:D≤18446744073709551615)(k2:D*V≤T)(k3:D=18446744073709551615∨T<(D+1)*V):d=D:=by
 have key:∀a b:Nat,a≤18446744073709551615→a*V≤T→(b=18446744073709551615∨T<(b+1)*V)→a≤b:=by
  intro a b _ h k
  rcases k with k | k
  ·omega
  ·refine qX (fun f=>?_)
   have:=eA V (mW f)
   rw [Nat.succ_eq_add_one] at this
   omega
 exact Nat.le_antisymm (key _ _ h1 h2 k3) (key _ _ k1 k2 h3)
theorem OL (T V:Nat)(hV:0<V):∃D:Nat,D≤18446744073709551615∧D*V≤T∧(D=18446744073709551615∨T<(D+1)*V):=by
 by_cases h:T/V≤18446744073709551615
 ·exact⟨T/V,h,Nat.div_mul_le_self _ _,bW (by rw [cM];exact t8 T hV)⟩
 ·refine⟨18446744073709551615,aS _,?_,bS rfl⟩
  have f:=Nat.div_mul_le_self T V
  have o:=eA V (Nat.le_of_lt (t7 h))
  omega
structure Gs (u2 u1 u0 v1 v0 d rest:Nat):Prop where
 eq:d*v1+rest=u2*WB+u1
 top:d=18446744073709551615∨(u2*WB+u1)*WB+u0<(d+1)*(v1*WB+v0)
theorem Gs.done {rest:Nat}(h:Gs u2 u1 u0 v1 v0 d rest)(hd:d*v0≤rest*WB+u0):d*(v1*WB+v0)≤(u2*WB+u1)*WB+u0:=by
 rw [←h.eq,dV,cS,←bZ]
 omega
theorem Gs.step {rest:Nat}(h:Gs u2 u1 u0 v1 v0 (d+1) rest)(hd:rest*WB+u0<(d+1)*v0):Gs u2 u1 u0 v1 v0 d (rest+v1):=by
 refine⟨?_,bW ?_⟩
 ·rw [←h.eq,lE];omega
 ·rw [←h.eq,cS,dV,←bZ]
  omega
theorem Gs.cmp {lo p rest:Nat}(hp:lo+WB*hi=p)(hlo:lo≤18446744073709551615)(hu:u0≤18446744073709551615):(hi<rest∨hi=rest∧lo≤u0)↔p≤rest*WB+u0:=by
 rw [←hp,cI]
 omega
theorem Gs.over {rest:Nat}(hd:d≤18446744073709551615)(hv:v0≤18446744073709551615)(hr:18446744073709551616≤rest):d*v0≤rest*WB+u0:=by
 have f:d*v0≤18446744073709551615*18446744073709551615:=kE hd hv
 rw [cI]
 omega
theorem RG (h2:u2≤v1)(h1:u1≤18446744073709551615)(h0:u0≤18446744073709551615)(hv1:v1≤18446744073709551615)(hv0:v0≤18446744073709551615)(hpos:0<v1)(w:a7):aQ aM 108 #[AI (u2:Int),AI (u1:Int),AI (u0:Int),AI (v1:Int),AI (v0:Int)] w (I4 u2 u1 u0 v1 v0 w):=by
 go_enter Tryz.func108,Tryz.ntmps108
 go_wp2_with fail
 go_step3
 go_upto_if 21 with (fail)
 go_cut [11,12] (fun a b wc=>∃d r:Nat,a= AI (d:Int)∧b= AI (r:Int)∧d≤18446744073709551615∧r≤18446744073709551615∧Hid (Gs u2 u1 u0 v1 v0 d r)∧∃m,wc=w.drewN m)
 case first=>
  by_cases hlt:v1≤u2
  ·obtain⟨s,c,hs,hsb,hc,hadd⟩:=sO h1 hv1
   have hG:Hid (Gs u2 u1 u0 v1 v0 18446744073709551615 (u1+v1)):=by
    refine⟨?_,bS rfl⟩
    obtain rfl:u2=v1:=by omega
    rw [cI];omega
   by_cases hc0:c=0
   ·subst hc0
    have b0:((0:Int) != 0)=false:=rfl
    go_wp2_with fail
    go_meet
    case rel=>
     have e:s=u1+v1:=by have:=hs.out;omega
     exact⟨18446744073709551615,s,rfl,rfl,by omega,hsb,by rw [e];exact hG,0,rfl⟩
   ·obtain rfl:c=1:=by omega
    have b1:((1:Int) != 0)=true:=rfl
    go_wp2_with fail
    simp only [Exit.noGoto_ret]
    go_ret
    exact⟨18446744073709551615,rfl,by omega,hG.out.done (Gs.over (by omega) hv0 (by have:=hs.out;rw [cI] at this;omega)),bS rfl,0,rfl⟩
  ·go_wp2_with fail
   refine (GR (show u2<v1 by omega) h1 hv1 _).mono ?_
   rintro e w1 ⟨d,r,hd,hr,hdb,hrb,rfl,m1,rfl⟩
   go_wp2_with fail
   go_meet
   case rel=>
    have e1:d*v1+r=u2*WB+u1:=by rw [hd.out,hr.out,cM];exact m5 _ _
    refine⟨d,r,rfl,rfl,hdb,by omega,⟨e1,bW ?_⟩,m1,rfl⟩
    rw [←e1,dV,dV,Nat.one_mul,cS,←bZ]
    have h3:r*WB+WB≤v1*WB:=by
     have:=eA WB (mW hrb)
     rwa [lE] at this
    have h4:u0<WB:=by rw [cI];omega
    omega
 case rest=>
  obtain⟨d0,r0,rfl,rfl,hd0,hr0,hG0,hx0⟩:=hcut
  go_wp2_with fail
  go_step3
  go_wp2_with fail
  go_loopw [11,12] (fun a b wr=>∃d r:Nat,a= AI (d:Int)∧b= AI (r:Int)∧d≤18446744073709551615∧r≤18446744073709551615∧Hid (Gs u2 u1 u0 v1 v0 d r)∧wc=wr) (fun a b wr=>(intOf a).toNat)
  case atStart=>exact⟨d0,r0,rfl,rfl,hd0,hr0,hG0,rfl⟩
  case round=>
   obtain⟨d,r,rfl,rfl,hd,hr,hG,rfl⟩:=hrel
   clear hG0 hd0 hr0
   go_wp2_with fail
   refine (bits_Mul64 d v0 hd hv0 _).mono ?_
   rintro e w1 ⟨hi,lo,hp,hhb,hlb,rfl,rfl⟩
   have hcmp:=Lib.hid (Gs.cmp (rest:=r) hp.out hlb h0)
   have fin:∀d:Nat,d≤18446744073709551615→d*(v1*WB+v0)≤(u2*WB+u1)*WB+u0→(d=18446744073709551615∨(u2*WB+u1)*WB+u0<(d+1)*(v1*WB+v0))→I4 u2 u1 u0 v1 v0 w (.returned (AI (d:Int))) wc:=fun d a b c=>⟨d,rfl,a,b,c,hx0⟩
   have FIN:=Lib.hid fin
   clear fin
   have bad:¬d*v0≤r*WB+u0→∃d',d=d'+1∧Gs u2 u1 u0 v1 v0 d' (r+v1):=by
    intro h
    cases d with
    | zero=>simp at h
    | succ d'=>exact⟨d',rfl,hG.out.step (by omega)⟩
   have BAD:=Lib.hid bad
   clear bad
   obtain⟨s,c,hs,hsb,hc,hadd⟩:=sO hr hv1
   by_cases hA:hi<r
   ·go_wp2_with fail
    go_ret
    exact FIN.out d hd (hG.out.done (hcmp.out.1 (bS hA))) hG.out.top
   ·by_cases hB:hi=r
    ·have b1:((hi:Int)==(r:Int))=true:=by simp [hB]
     have HB:=Lib.hid hB
     clear hB
     by_cases hC:lo≤u0
     ·go_wp2_with fail
      go_ret
      exact FIN.out d hd (hG.out.done (hcmp.out.1 (bW ⟨HB.out,hC⟩))) hG.out.top
     ·obtain⟨d',rfl,hG'⟩:=BAD.out (fun h=>by have:=hcmp.out.2 h;have:=HB.out;omega)
      have HG':=Lib.hid hG'
      clear hG'
      have ed:((d'+1:Nat):Int)-1=(d':Int):=by omega
      by_cases hc0:c=0
      ·subst hc0
       have b0:((0:Int) != 0)=false:=rfl
       go_wp2_with fail
       go_roundw
       case rel=>exact⟨d',s,rfl,rfl,by omega,hsb,by rw [show s=r+v1 from by have:=hs.out;omega];exact HG',Fo⟩
       case measure=>simp [intOf]
      ·obtain rfl:c=1:=by omega
       have b0:((1:Int) != 0)=true:=rfl
       go_wp2_with fail
       go_ret
       exact FIN.out d' (by omega) (HG'.out.done (Gs.over (by omega) hv0 (by have:=hs.out;rw [cI] at this;omega))) HG'.out.top
    ·have b1:((hi:Int)==(r:Int))=false:=by simp;omega
     obtain⟨d',rfl,hG'⟩:=BAD.out (fun h=>by have:=hcmp.out.2 h;omega)
     have HG':=Lib.hid hG'
     clear hG'
     have ed:((d'+1:Nat):Int)-1=(d':Int):=by omega
     by_cases hc0:c=0
     ·subst hc0
      have b0:((0:Int) != 0)=false:=rfl
      go_wp2_with fail
      go_roundw
      case rel=>exact⟨d',s,rfl,rfl,by omega,hsb,by rw [show s=r+v1 from by have:=hs.out;omega];exact HG',Fo⟩
      case measure=>simp [intOf]
     ·obtain rfl:c=1:=by omega
      have b0:((1:Int) != 0)=true:=rfl
      go_wp2_with fail
      go_ret
      exact FIN.out d' (by omega) (HG'.out.done (Gs.over (by omega) hv0 (by have:=hs.out;rw [cI] at this;omega))) HG'.out.top
end
end Go.Proofs.YtkkabncicmhjfaaGreat
