/- Parts Base, Mem, Sx, Sxd, Sxe, Bits, Div64, Div64b, Radix, Nat, NatB, Mulnat, MulnatB, MulnatC, MulnatD, Divnat, DivnatB, Shr, joined. -/
import Derived.Deep.Slices
import Derived.WalkKit
import Derived.WalkSpells
import Derived.Deep.Draws
import Derived.Lib.Hide
import Derived.Laws.CopyOwn
import Derived.Deep.QuietTactic
import Derived.BigQuiet
import Derived.Deep.RegionHeld3
import Derived.Deep.RegionWith
import Derived.Deep.DeepCutAuto
import Derived.Deep.DeepMust
import Derived.Deep.DeepFit
import Derived.Handy
import Derived.OwnWalk
import Derived.Maps.AppendAt
import Derived.Test.YtkepckmdjncehaaGreatDoorShelf
import Derived.Shelf.Spec.BitsCarry
import Derived.Lib.ItoaNum
import Derived.Deep.CutBlock
import Derived.Test.YtkepckmdjncehaaGreatDoorProg
import Derived.WalkMore

open Go.Act renaming put → oM
open Go renaming Addr → aC, BinOp → jS, Calls → aO, Ending → fA, Exit → dR, IntKind → jA, Next → fH, Oper → aX, Operand → cS, Program → cD, ResultVar → u3, TypeId → aT, Value → aH, World → a6, bodyPost_ret → nD, run_underlying → kZ, wpList_plain → AM
open Go.Addr renaming add → oL
open Array renaming getD_eq_getD_getElem? → rD, getElem?_eq_some_iff → pV, getElem?_replicate → EN, getElem?_setIfInBounds_ne → EM, replicate → uJ
open Go.RowKit.Below renaming heap_setCell → O8
open BitVec renaming ofInt → nL
open Bool renaming and_eq_true → fE, or_eq_true → nK
open Go.Builtin renaming append_ → rC, firstCells → O7
open Classical renaming byContradiction → EL, choose → EK, choose_spec → O6
open Go.Code renaming wp_mono → EJ
open Go.Deferred renaming ofValue → O5
open Go.Exit renaming inBlock → sN
open Go.Instr renaming alloc → AZ, loadAt → AY, makeSlice → rB, storeAt → AX
open Int renaming natCast_mul → kN, tdiv_eq_ediv_of_nonneg → AW, toNat_natCast → gV
open Go.IntKind renaming bits → uI, signed → uH, wrap → wR
open List renaming all_eq_true → fU, any_eq_true → AV, cons_append → j8, contains_iff_mem → nJ, countP_cons → AU, countP_le_length → EI, drop_eq_getElem_cons → m4, drop_zero → gU, eq_nil_iff_forall_not_mem → AQ, eq_nil_of_length_eq_zero → EH, filter_append → O4, getD_eq_getElem?_getD → bC, getElem?_drop → oK, getElem?_eq_getElem → cJ, getElem?_eq_none → kM, getElem?_eq_some_iff → iO, getElem?_map → kK, getElem?_take → kJ, getElem_mem → mI, getElem_of_mem → uG, getLast_eq_getElem → O3, length_cons → cO, length_drop → cV, length_eq_zero_iff → pU, length_take → bJ, map_cons → iN, map_drop → uF, map_nil → j7, map_take → k5, map_toArray → pT, mem_append → nI, mem_cons → uE, mem_of_mem_drop → gK, mem_of_mem_take → l5, mem_or_eq_of_mem_set → O2, mem_range → jJ, mem_replicate → wQ, mem_singleton → jI, range → j3, replicate → bP, replicate_succ → AP, take_append_drop → pS, take_succ_cons → EG
open Nat renaming add_assoc → j0, add_lt_add_iff_right → O0, add_mul → dX, add_mul_div_left → uD, add_mul_mod_self_left → AN, add_right_cancel_iff → NZ, add_sub_cancel → kI, add_zero → dN, beq → pR, div_add_mod → iA, div_eq_of_lt → gT, div_le_self → fI, div_lt_iff_lt_mul → k0, div_lt_of_lt_mul → wP, div_lt_self → jZ, eq_of_beq_eq_true → sL, eq_zero_or_pos → mH, le_of_not_lt → pQ, le_refl → b8, le_trans → aG, lt_mul_div_succ → wO, lt_of_le_of_lt → iH, lt_of_lt_of_le → dF, lt_of_not_le → oI, lt_or_ge → jR, min_eq_left → fT, mod_add_div → jY, mod_eq_of_lt → fG, mod_lt → eO, mul_add → cT, mul_add_div → nH, mul_add_mod → wN, mul_assoc → bH, mul_comm → bY, mul_div_mul_right → rA, mul_le_mul → jQ, mul_le_mul_left → eF, mul_le_mul_right → eA, mul_lt_mul'' → uC, mul_lt_mul_of_pos_right → pP, mul_mod_mul_right → sK, mul_one → cI, mul_pos → fS, mul_right_comm → kH, mul_succ → sJ, mul_zero → iG, or_lt_two_pow → qZ, pow_add → bX, pow_le_pow_right → dU, pow_lt_pow_iff_right → sI, pow_pos → eP, pow_succ → cB, strongRecOn → sH, sub_add_cancel → jP, succ_le_of_lt → oH, succ_mul → lZ, two_pow_pos → dW, zero_add → f9, zero_le → bW
open Ne renaming symm → uB
open Go.Next renaming value → fZ
open Go.Op renaming intArith → EF, intDiv → wM
open Go.Oper renaming upon → oG, wp → nF
open Option renaming getD_some → nE, map_some → uA
open Option.some renaming inj → l4, injEq → fL
open Or renaming inl → cE, inr → bR
open Go.Region renaming binds → jX, ready → sG, wanted → u6
open Go.Result renaming andThen_ok → f8
open Go.Sem renaming run_bind → cK, run_pure → gN
open Go.Proofs.Tryz renaming prog → aF
open Go.Value renaming int → bV, pointer → wL
open Go.World.grownBy renaming refl → EE
open Go.World renaming setCell → tY
namespace Go.Proofs.YtkepckmdjncehaaGreatDoor
variable {A B S dp sp:Option aC}{K N V b base bytes cap cap' cc d g hi i id j k lo2 m n n' q r r0 s u u0 u1 u2 un un0 un1 un10 v0 v1 x y yn0 yn1 yy:Nat}{P:cD}{T:Type}{a:Act}{after:Array Edge}{args cs us vs:List aH}{c:Code}{ds fl js l st xs ys zs:List Nat}{dss:List (List Nat)}{dst:Option Tmp}{e t t' ty:aT}{er:Int}{f:FuncId}{fn:Func}{gd guard:Option (Nat×Bool)}{listed:Array Bool}{o:aX}{ol rest:List aX}{op:jS}{ops:Array aX}{p:aC}{ps:List (Nat×Nat)}{ts:Array aT}{v vx vy z:aH}
section
def WB:Nat:=18446744073709551616
theorem gE:0<WB:=by decide
theorem cF:WB=18446744073709551616:=rfl
theorem NJ:2≤WB:=by decide
def nv:List Nat→Nat
 | []=>0
 | x::r=>x+WB*nv r
def Wf (xs:List Nat):Prop:=∀x∈xs,x<WB
theorem qK (x:Nat)(r:List Nat):nv (x::r)=x+WB*nv r:=rfl
theorem CE (xs ys:List Nat):nv (xs++ys)=nv xs+WB^xs.length*nv ys:=by
 induction xs with
 | nil=>simp [nv]
 | cons x r ih=>
  simp only [j8,nv,ih,cO,cB]
  rw [cT,←bH,bY WB (WB^r.length),j0]
theorem jM (h:Wf xs):nv xs<WB^xs.length:=by
 induction xs with
 | nil=>simp [nv]
 | cons x r ih=>
  have hx:x<WB:=h x (by simp)
  have hr:=ih (fun y hy=>h y (by simp [hy]))
  simp only [nv,cO,cB]
  have:WB*nv r+WB≤WB*WB^r.length:=by
   have:=eF WB (oH hr)
   rw [sJ] at this;exact this
  rw [bY (WB^r.length)]
  omega
theorem yH (n:Nat):nv (bP n 0)=0:=by
 induction n with
 | zero=>rfl
 | succ n ih=>simp [AP,nv,ih]
theorem JH (xs:List Nat)(x:Nat):nv (xs++ [x])=nv xs+WB^xs.length*x:=by
 rw [CE];simp [nv]
def pY:Nat→Nat→List Nat
 | 0,_=> []
 | f+1,n=>if n=0 then [] else n%WB::pY f (n/WB)
def wd (n:Nat):List Nat:=pY n n
theorem FH (f:Nat):∀(g n:Nat),n≤f→n≤g→pY f n=pY g n:=by
 induction f with
 | zero=>
  intro g n h _
  have:n=0:=by omega
  subst this
  cases g <;> simp [pY]
 | succ f ih=>
  intro g n h hg
  by_cases h0:n=0
  ·subst h0;cases g <;> simp [pY]
  ·cases g with
   | zero=>omega
   | succ g=>
    have hlt:n/WB<n:=jZ (by omega) (by decide)
    simp only [pY,h0,if_false]
    rw [ih g (n/WB) (by omega) (by omega)]
theorem pX:wd 0= []:=rfl
theorem rE (h:n≠0):wd n=n%WB::wd (n/WB):=by
 have hlt:n/WB<n:=jZ (by omega) (by decide)
 unfold wd
 conv=>lhs;rw [FH n (n+1) n (b8 _) (by omega)]
 simp only [pY,h,if_false]
 rw [FH n (n/WB) (n/WB) (by omega) (b8 _)]
theorem FG {p:Nat→Prop}(h0:p 0)(hs:∀n,n≠0→p (n/WB)→p n)(n:Nat):p n:=by
 induction n using sH with
 | ind n ih=>
  by_cases h:n=0
  ·subst h;exact h0
  ·exact hs n h (ih _ (jZ (by omega) (by decide)))
theorem gH (n:Nat):nv (wd n)=n:=by
 induction n using FG with
 | h0=>rfl
 | hs n h ih=>rw [rE h,qK,ih];exact jY n WB
theorem pN (n:Nat):Wf (wd n):=by
 induction n using FG with
 | h0=>intro x hx;cases hx
 | hs n h ih=>
  rw [rE h]
  intro x hx
  cases uE.1 hx with
  | inl e=>subst e;exact eO _ gE
  | inr e=>exact ih x e
theorem PJ:wd n= []↔n=0:=by
 constructor
 ·intro h;rw [←gH n,h];rfl
 ·rintro rfl;rfl
theorem jN:(wd n).length=0↔n=0:=by
 rw [pU];exact PJ
theorem FE:∀{xs:List Nat},Wf xs→(∀h:xs≠ [],xs.getLast h≠0)→wd (nv xs)=xs
 | [],_,_=>rfl
 | [x],hw,ht=>by
  have hx:x<WB:=hw x (by simp)
  have h0:x≠0:=ht (by simp)
  simp only [nv,iG,dN]
  rw [rE h0,fG hx,gT hx,pX]
 | x::y::r,hw,ht=>by
  have hx:x<WB:=hw x (by simp)
  have ih:=FE (xs:=y::r) (fun z hz=>hw z (by simp [hz])) (fun h=>by have:=ht (by simp);simpa [List.getLast_cons] using this)
  have hpos:nv (y::r)≠0:=by
   intro e
   rw [e,pX] at ih
   cases ih
  have hn:nv (x::y::r)≠0:=by
   rw [qK]
   have:0<WB*nv (y::r):=fS gE (by omega)
   omega
  rw [rE hn,qK,AN,fG hx,uD _ _ gE,gT hx,f9,ih]
theorem PH (hw:Wf xs)(ht:xs.length=0∨xs.getD (xs.length-1) 0≠0):wd (nv xs)=xs:=by
 refine FE hw (fun h=>?_)
 have hl:xs.length≠0:=by simpa using h
 rcases ht with h' | h'
 ·exact absurd h' hl
 ·rw [O3]
  have:xs.length-1<xs.length:=by omega
  rwa [bC,cJ this,nE] at h'
theorem sB (h:Wf xs)(k:Nat):Wf (xs.take k):=fun x hx=>h x (l5 hx)
theorem E5 (h:Wf xs)(k:Nat):Wf (xs.drop k):=fun x hx=>h x (gK hx)
theorem tU (h:Wf xs)(k:Wf ys):Wf (xs++ys):=fun x hx=>by
 rcases nI.1 hx with e | e
 ·exact h x e
 ·exact k x e
theorem oD (h:Wf xs)(i:Nat):xs.getD i 0<WB:=by
 by_cases hi:i<xs.length
 ·rw [bC,cJ hi];exact h _ (mI hi)
 ·rw [bC,kM (by omega)];exact gE
theorem NI:Wf []:=fun x hx=>by cases hx
theorem pM (n:Nat):Wf (bP n 0):=fun x hx=>by rw [(wQ.1 hx).2];exact gE
theorem E4 (h:x<WB):Wf [x]:=fun y hy=>by rw [jI.1 hy];exact h
theorem gS (h:Wf xs)(i:Nat)(hx:x<WB):Wf (xs.set i x):=fun y hy=>by
 rcases O2 hy with e | e
 ·exact h y e
 ·rw [e];exact hx
theorem uO {α:Type}(xs:List α)(k:Nat)(h:k<xs.length)(d:α):xs.take (k+1)=xs.take k++ [xs.getD k d]:=by
 rw [List.take_succ_eq_append_getElem h,bC,cJ h];rfl
theorem fB (xs:List Nat)(k:Nat)(h:k<xs.length):nv (xs.take (k+1))=nv (xs.take k)+WB^k*xs.getD k 0:=by
 rw [uO xs k h 0,JH,bJ,fT (by omega)]
theorem oZ (xs:List Nat)(k:Nat)(h:k≤xs.length):nv xs=nv (xs.take k)+WB^k*nv (xs.drop k):=by
 have:=CE (xs.take k) (xs.drop k)
 rw [pS,bJ,fT h] at this
 exact this
theorem rN (xs:List Nat)(k:Nat)(h:k<xs.length)(h0:xs.getD k 0=0):nv (xs.take (k+1))=nv (xs.take k):=by
 rw [fB xs k h,h0];simp
theorem m9 (h:Wf xs)(k:Nat):nv (xs.take k)<WB^k:=by
 have h1:=jM (sB h k)
 have h2:WB^(xs.take k).length≤WB^k:=dU gE (by rw [bJ];omega)
 omega
theorem uL (hw:Wf xs)(hk:k≤xs.length)(hv:nv (xs.take k)=nv xs)(ht:k=0∨xs.getD (k-1) 0≠0):wd (nv xs)=xs.take k:=by
 have hl:(xs.take k).length=k:=by rw [bJ];omega
 rw [←hv]
 refine PH (sB hw k) ?_
 rw [hl]
 rcases ht with h | h
 ·exact cE h
 ·by_cases h0:k=0
  ·exact cE h0
  ·refine bR ?_
   rw [bC,kJ,if_pos (by omega),←bC]
   exact h
theorem fY (h : n < WB ^ k): (wd n).length ≤ k := by
  induction k generalizing n with
  | zero => have : n = 0 := by simp at h; omega
            subst this; simp [pX]
  | succ k ih =>
    by_cases h0 : n = 0
    · subst h0; simp [pX]
    · rw [rE h0, cO]
      have : n / WB < WB ^ k := by rw [k0 gE]; rwa [← cB]
      have := ih this
      omega
theorem kS (n:Nat):n<WB^(wd n).length:=by
 have:=jM (pN n)
 rwa [gH] at this
theorem J1 (h:n≠0):WB^((wd n).length-1)≤n:=by
 refine pQ (fun hlt=>?_)
 have h1:=fY hlt
 have h2:(wd n).length≠0:=fun e=>h (jN.1 e)
 omega
theorem iM (h:Wf xs):(wd (nv xs)).length≤xs.length:=fY (jM h)
theorem gZ {a:Nat}(h:a≤b):(wd a).length≤(wd b).length:=fY (iH h (kS b))
theorem XJ (a b:Nat):(wd (a+b)).length≤max (wd a).length (wd b).length+1:=by
 refine fY ?_
 have ha:=kS a
 have hb:=kS b
 have h1:WB^(wd a).length≤WB^max (wd a).length (wd b).length:=dU gE (Nat.le_max_left _ _)
 have h2:WB^(wd b).length≤WB^max (wd a).length (wd b).length:=dU gE (Nat.le_max_right _ _)
 rw [cB]
 have h3:WB^max (wd a).length (wd b).length*2≤WB^max (wd a).length (wd b).length*WB:=eF _ NJ
 omega
theorem vP (a b:Nat):(wd (a*b)).length≤(wd a).length+(wd b).length:=by
 refine fY ?_
 rw [bX]
 by_cases ha:a=0
 ·subst ha;simp only [Nat.zero_mul];exact fS (eP gE) (eP gE)
 ·exact uC (kS a) (kS b)
theorem FD (h:x<WB)(h0:x≠0):wd x= [x]:=by
 rw [rE h0,fG h,gT h,pX]
theorem nQ:∀{xs:List Nat}{m:Nat},Wf xs→m=(wd (nv xs)).length→wd (nv xs)=xs.take m
 | [],m,_,h=>by simp [nv,pX]
 | x::r,m,hw,h=>by
  have hx:x<WB:=hw x (by simp)
  by_cases h0:nv (x::r)=0
  ·rw [h0,pX] at h⊢
   subst h;rfl
  ·have hd:nv (x::r)/WB=nv r:=by rw [qK,uD _ _ gE,gT hx,f9]
   have hm:nv (x::r)%WB=x:=by rw [qK,AN,fG hx]
   rw [rE h0,hd,hm] at h⊢
   obtain⟨k,rfl⟩:∃k,m=k+1:=⟨m-1,by rw [h,cO];rfl⟩
   rw [cO] at h
   rw [EG,←nQ (fun y hy=>hw y (by simp [hy])) (by omega)]
def dH (a b:Nat):Int:=if a<b then-1 else if a=b then 0 else 1
theorem zP {a:Nat}(h:a<b):dH a b= -1:=by simp [dH,h]
theorem MJ (a:Nat):dH a a=0:=by simp [dH]
theorem wB {a:Nat}(h:b<a):dH a b=1:=by
 unfold dH;rw [if_neg (by omega),if_neg (by omega)]
theorem MK (a b:Nat): -1≤dH a b∧dH a b≤1:=by
 unfold dH;split
 ·omega
 ·split <;> omega
theorem pH {a:Nat}:dH a b<0↔a<b:=by
 unfold dH;split
 ·simp_all
 ·split <;> simp_all
theorem DS {a:Nat}:0<dH a b↔b<a:=by
 unfold dH;split
 ·simp_all;omega
 ·split <;> simp_all;omega
theorem KC {a:Nat}(h:(wd a).length<(wd b).length):a<b:=by
 refine oI (fun hle=>?_)
 have:=gZ hle
 omega
theorem JF (hx:Wf xs)(hkx:k<xs.length)(hky:k<ys.length)(h:xs.getD k 0<ys.getD k 0):nv (xs.take (k+1))<nv (ys.take (k+1)):=by
 rw [fB xs k hkx,fB ys k hky]
 have h1:=m9 hx k
 have h2:WB^k*xs.getD k 0+WB^k≤WB^k*ys.getD k 0:=by
  have:=eF (WB^k) (oH h)
  rwa [sJ] at this
 omega
theorem a0V (hkx:k<xs.length)(hky:k<ys.length)(h:xs.getD k 0=ys.getD k 0):
  dH (nv (xs.take (k+1))) (nv (ys.take (k+1)))=dH (nv (xs.take k)) (nv (ys.take k)):=by
 rw [fB xs k hkx,fB ys k hky,h]
 unfold dH
 simp only [O0,NZ]
theorem oY (hw:Wf xs)(h:m=(wd (nv xs)).length):nv (xs.take m)=nv xs:=by
 rw [←nQ hw h,gH]
theorem vH (x:Nat):nv [x]=x:=by simp [nv]
end
section
open Go.RowKit
abbrev aW (x:Nat):aH:= .int .u64 (x:Int)
theorem T5 {k:jA}{a b:Int}(h:a=b):Ending.returned (.int k a)= .returned (.int k b):=by rw [h]
theorem fW {k:jA}{a b:Int}(h:a=b:=by omega):bV k a=bV k b:=by rw [h]
theorem pJ (a:aC)(n:Nat):(a.add n).block=a.block:=by unfold oL;split <;> rfl
theorem a1A (a:aC)(i j:Nat):(a.add i).add j=a.add (i+j):=by
 unfold oL
 by_cases hi:i=0 <;> by_cases hj:j=0 <;> simp [hi,hj,j0]
theorem kX (g o i:Nat):(⟨g,o,none⟩:aC).add i=⟨g,o+i,none⟩:=by
 unfold oL;split <;> simp_all
structure Ext (w w':a6):Prop where
 below:Below w.heap.size w w'
theorem Ext.refl (w:a6):Ext w w:=⟨Below.refl _ _⟩
theorem Ext.trans {a b c:a6}(h:Ext a b)(k:Ext b c):Ext a c:=⟨h.below.trans (k.below.mono h.below.size)⟩
theorem Ext.size {a b:a6}(h:Ext a b):a.heap.size≤b.heap.size:=h.below.size
theorem Ext.alloc {a w:a6}(h:Ext a w)(o:Obj):Ext a (w.alloc o):=⟨h.below.alloc h.below.size o⟩
theorem Ext.drew {a w:a6}(h:Ext a w):Ext a w.drew:=⟨h.below.drew⟩
theorem Ext.drewN {a w:a6}(h:Ext a w)(n:Nat):Ext a (w.drewN n):=⟨⟨h.below.os,h.below.tape,h.below.output,h.below.size,h.below.block⟩⟩
theorem Ext.setCell {a w:a6}(h:Ext a w)(hp:a.heap.size≤p.block)(u:aH):Ext a (w.setCell p u):=⟨h.below.setCell hp u⟩
theorem Ext.grown {a w w':a6}{row:Option Nat}(h:Ext a w)(hg:w.grownBy w' row)(hr:∀k,row=some k→a.heap.size≤k):Ext a w':=⟨h.below.grown hg h.below.size hr⟩
theorem Ext.of_grown {w w':a6}(hg:w.grownBy w' none):Ext w w':=(Ext.refl w).grown hg (fun _ h=>by cases h)
theorem Ext.cell {w w':a6}(h:Ext w w')(hc:w.cell? p=some v):w'.cell? p=some v:=
 (h.below.cell (World.block_lt_of_cell? w p hc)).trans hc
theorem Ext.heap {w w':a6}(h:Ext w w'){o:Obj}(hc:w.heap[g]?=some o):w'.heap[g]?=some o:=
 (h.below.block g (pV.1 hc).1).trans hc
structure Upd (g:Nat)(w w':a6):Prop where
 by_:w.grownBy w' (some g)
theorem Upd.ext {a w w':a6}(h:Upd g w w')(e:Ext a w)(hg:a.heap.size≤g):Ext a w':=e.grown h.by_ (fun k hk=>by cases hk;exact hg)
theorem Upd.refl (g:Nat)(w:a6):Upd g w w:=⟨EE _ _⟩
theorem Upd.trans {a b c:a6}(h:Upd g a b)(k:Upd g b c):Upd g a c:=
 ⟨⟨k.by_.os.trans h.by_.os,k.by_.tape.trans h.by_.tape,k.by_.output.trans h.by_.output,aG h.by_.size k.by_.size,
  fun i hi hne=>(k.by_.block i (dF hi h.by_.size) hne).trans (h.by_.block i hi hne)⟩⟩
theorem Upd.setCell {a w:a6}(h:Upd g a w)(i:Nat)(u:aH):Upd g a (w.setCell ⟨g,i,none⟩ u):=
 h.trans ⟨⟨rfl,rfl,rfl,by simp [tY],fun k hk hne=>O8 _ _ _ _ (fun e=>hne (by rw [e]))⟩⟩
theorem Upd.drew {a w:a6}(h:Upd g a w):Upd g a w.drew:=⟨⟨h.by_.os,h.by_.tape,h.by_.output,h.by_.size,h.by_.block⟩⟩
theorem Upd.then_ext {a w w':a6}(h:Upd g a w)(e:Ext w w'):Upd g a w':=
 h.trans ⟨⟨e.below.os,e.below.tape,e.below.output,e.below.size,fun k hk _=>e.below.block k hk⟩⟩
theorem Upd.of_ext {w w':a6}(e:Ext w w'):Upd g w w':=(Upd.refl g w).then_ext e
theorem Upd.heap {w w':a6}(h:Upd g w w'){o:Obj}(hc:w.heap[k]?=some o)(hne:k≠g):w'.heap[k]?=some o:=
 (h.by_.block k (pV.1 hc).1 (fun e=>hne (l4 e))).trans hc
theorem Upd.size {w w':a6}(h:Upd g w w'):w.heap.size≤w'.heap.size:=h.by_.size
theorem Upd.cell {w w':a6}(h:Upd g w w')(hc:w.cell? p=some v)(hne:p.block≠g):w'.cell? p=some v:=
 h.by_.cell hc (fun e=>hne (l4 e))
structure Rv (w:a6)(s:Nat)(A:Option aC)(n cap:Nat)(vs:List aH):Prop where
 len:vs.length=n*s
 le:n≤cap
 max:cap≤maxLen
 get:∀i,i<n*s→∃a,A=some a∧w.cell? (a.add i)=some (vs.getD i undef)
 blk:∀a,A=some a→0<cap→a.block<w.heap.size
theorem Rv.ext {w w':a6}(h:Rv w s A n cap vs)(e:Ext w w'):Rv w' s A n cap vs:=
 ⟨h.len,h.le,h.max,fun i hi=>by obtain⟨a,ha,hc⟩:=h.get i hi;exact⟨a,ha,e.cell hc⟩,fun a ha hc=>dF (h.blk a ha hc) e.size⟩
theorem Rv.upd {w w':a6}(h:Rv w s A n cap vs)(e:Upd g w w')(hne:∀a,A=some a→a.block≠g):Rv w' s A n cap vs:=
 ⟨h.len,h.le,h.max,fun i hi=>by obtain⟨a,ha,hc⟩:=h.get i hi;exact⟨a,ha,e.cell hc (by rw [pJ];exact hne a ha)⟩,fun a ha hc=>dF (h.blk a ha hc) e.size⟩
theorem Rv.nil (w:a6)(s:Nat):Rv w s none 0 0 []:=⟨by simp,b8 _,by decide,fun i hi=>by omega,fun a ha=>by cases ha⟩
theorem Rv.cut {w:a6}(h:Rv w s A n cap vs){l:Nat}(hl:l≤k)(hk:k≤n)(hm:k≤m)(hc:m≤cap):
  Rv w s (if m=l then A else A.map (·.add (l*s))) (k-l) (m-l) ((vs.take (k*s)).drop (l*s)):=by
 have e1:k*s≤n*s:=eA s hk
 have e2:l*s≤k*s:=eA s hl
 refine⟨?_,by omega,aG (by omega) h.max,fun i hi=>?_,fun a ha hz=>?_⟩
 ·rw [cV,bJ,h.len,Nat.sub_mul,fT e1]
 ·rw [Nat.sub_mul] at hi
  obtain⟨a,ha,hcell⟩:=h.get (l*s+i) (by omega)
  have hne:¬m=l:=fun e=>by
   have:k=l:=by omega
   subst this;omega
  rw [if_neg hne,ha]
  refine⟨a.add (l*s),rfl,?_⟩
  rw [a1A,hcell]
  congr 1
  simp only [bC,oK]
  rw [kJ,if_pos (by omega)]
 ·split at ha
  ·exact h.blk a ha (by omega)
  ·cases A with
   | none=>cases ha
   | some b=>simp only [uA,fL] at ha;subst ha;rw [pJ];exact h.blk b rfl (by omega)
structure Rd (w:a6)(A:Option aC)(n cap:Nat)(xs:List Nat):Prop where
 rv:Rv w 1 A n cap (xs.map aW)
 wf:Wf xs
theorem Rd.ext {w w':a6}(h:Rd w A n cap xs)(e:Ext w w'):Rd w' A n cap xs:=⟨h.rv.ext e,h.wf⟩
theorem Rd.upd {w w':a6}(h:Rd w A n cap xs)(e:Upd g w w')(hne:∀a,A=some a→a.block≠g):Rd w' A n cap xs:=⟨h.rv.upd e hne,h.wf⟩
theorem Rd.len {w:a6}(h:Rd w A n cap xs):xs.length=n:=by simpa using h.rv.len
theorem Rd.nil (w:a6):Rd w none 0 0 []:=⟨Rv.nil w 1,NI⟩
theorem Rd.get {w:a6}(h:Rd w A n cap xs)(hi:i<n):
  ∃a x,A=some a∧Hid (xs.getD i 0=x)∧x≤18446744073709551615∧w.cell? (a.add i)=some (.int .u64 (x:Int)):=by
 obtain⟨a,ha,hc⟩:=h.rv.get i (by omega)
 have hl:i<xs.length:=by rw [h.len];exact hi
 have hlt:=oD h.wf i
 refine⟨a,_,ha,rfl,by rw [cF] at hlt;omega,?_⟩
 rw [hc]
 simp [bC,kK,cJ hl]
theorem Rd.cut {w:a6}(h:Rd w A n cap xs){l:Nat}(hl:l≤k)(hk:k≤n)(hm:k≤m)(hc:m≤cap):
  Rd w (if m=l then A else A.map (·.add l)) (k-l) (m-l) ((xs.take k).drop l):=by
 have:=h.rv.cut hl hk hm hc
 simp only [cI] at this
 refine⟨?_,E5 (sB h.wf _) _⟩
 rw [uF,k5]
 exact this
theorem Rd.take {w:a6}(h:Rd w A n cap xs)(hk:k≤n)(hm:k≤m)(hc:m≤cap):Rd w A k m (xs.take k):=by
 have:=h.cut (l:=0) (bW _) hk hm hc
 simp only [Nat.sub_zero,gU] at this
 have e:(if m=0 then A else A.map (·.add 0))=A:=by
  have h0:∀a:aC,a.add 0=a:=fun a=>by simp [oL]
  split
  ·rfl
  ·cases A <;> simp [h0]
 rwa [e] at this
def Bk (w:a6)(g:Nat)(t:aT)(vs:List aH):Prop:=w.heap[g]?=some (.cells vs.toArray t (0,0))
section
variable {w w':a6}{g:Nat}{t:aT}{vs:List aH}
theorem Bk.lt (h:Bk w g t vs):g<w.heap.size:=(pV.1 h).1
theorem Bk.ext (h:Bk w g t vs)(e:Ext w w'):Bk w' g t vs:=e.heap h
theorem Bk.upd (h:Bk w g t vs)(e:Upd k w w')(hne:g≠k):Bk w' g t vs:=e.heap h hne
theorem Bk.cell (h:Bk w g t vs)(hi:i<vs.length):w.cell? ⟨g,i,none⟩=some (vs.getD i undef):=by
 rw [cell_of_row w g i _ t (0,0) h]
 simp [bC,cJ hi]
theorem Bk.frozen (h:Bk w g t vs)(i:Nat):w.frozen? ⟨g,i,none⟩=false:=by
 unfold Bk at h
 simp [World.frozen?,h]
theorem Bk.new (w:a6)(t:aT)(vs:List aH):Bk (w.alloc (.cells vs.toArray t)) w.heap.size t vs:=heap_alloc_new w _
theorem Bk.new' (w:a6)(t:aT)(cs:Array aH):Bk (w.alloc (.cells cs t)) w.heap.size t cs.toList:=heap_alloc_new w _
theorem Bk.set (h:Bk w g t vs)(i:Nat)(u:aH):Bk (w.setCell ⟨g,i,none⟩ u) g t (vs.set i u):=by
 unfold Bk at h⊢
 simp [tY,Array.getElem?_modify,h]
theorem Bk.far (h:Bk w g t vs)(hp:g≠p.block)(u:aH):Bk (w.setCell p u) g t vs:=(O8 w p u g hp).trans h
theorem Bk.alloc (h:Bk w g t vs)(o:Obj):Bk (w.alloc o) g t vs:=h.ext ((Ext.refl w).alloc o)
theorem Bk.drew (h:Bk w g t vs):Bk w.drew g t vs:=h
theorem Bk.drewN (h:Bk w g t vs)(n:Nat):Bk (w.drewN n) g t vs:=h
theorem Bk.rv (h:Bk w g t vs){o:Nat}(hn:n≤cap)(hc:o+cap≤vs.length)(hm:cap≤maxLen):Rv w 1 (some ⟨g,o,none⟩) n cap ((vs.drop o).take n):=by
 refine⟨by rw [bJ,cV];omega,hn,hm,fun i hi=>⟨_,rfl,?_⟩,fun a ha _=>by cases ha;exact h.lt⟩
 rw [kX,h.cell (by omega)]
 congr 1
 simp only [bC,kJ,oK]
 rw [if_pos (by omega)]
theorem Bk.rd (h:Bk w g t (xs.map aW))(hw:Wf xs){o:Nat}(hn:n≤cap)(hc:o+cap≤xs.length)(hm:cap≤maxLen):Rd w (some ⟨g,o,none⟩) n cap ((xs.drop o).take n):=by
 refine⟨?_,sB (E5 hw _) _⟩
 rw [k5,uF]
 exact h.rv hn (by simpa using hc) hm
end
theorem Bk.word {w:a6}(h:Bk w g t (xs.map aW))(hw:Wf xs)(hi:i<xs.length):
  ∃x,Hid (xs.getD i 0=x)∧x≤18446744073709551615∧w.cell? ⟨g,i,none⟩=some (.int .u64 (x:Int)):=by
 have hlt:=oD hw i
 refine⟨_,rfl,by rw [cF] at hlt;omega,?_⟩
 rw [h.cell (by simpa using hi)]
 simp [bC,kK,cJ hi]
def Own (w:a6)(base:Nat)(t:aT)(s:Nat)(A:Option aC)(n cap:Nat)(vs:List aH):Prop:=
 (A=none∧n=0∧cap=0∧vs= [])∨∃g cs,A=some ⟨g,0,none⟩∧base≤g∧Bk w g t cs∧n≤cap∧cap≤maxLen∧cs.length=cap*s∧cs.take (n*s)=vs
section
variable {w w':a6}{base:Nat}{t:aT}{s:Nat}{A:Option aC}{n cap:Nat}{vs:List aH}
theorem Own.nil (w:a6)(base:Nat)(t:aT)(s:Nat):Own w base t s none 0 0 []:=cE ⟨rfl,rfl,rfl,rfl⟩
theorem Own.mk_ (hb:base≤g)(h:Bk w g t cs)(hn:n≤cap)(hm:cap≤maxLen)(hl:cs.length=cap*s)(hv:cs.take (n*s)=vs):Own w base t s (some ⟨g,0,none⟩) n cap vs:=
 bR ⟨g,cs,rfl,hb,h,hn,hm,hl,hv⟩
theorem Own.ext (h:Own w base t s A n cap vs)(e:Ext w w'):Own w' base t s A n cap vs:=by
 rcases h with h | ⟨g,cs,ha,hb,hk,r⟩
 ·exact cE h
 ·exact bR ⟨g,cs,ha,hb,hk.ext e,r⟩
theorem Own.upd (h:Own w base t s A n cap vs)(e:Upd k w w')(hne:∀a,A=some a→a.block≠k):Own w' base t s A n cap vs:=by
 rcases h with h | ⟨g,cs,ha,hb,hk,r⟩
 ·exact cE h
 ·exact bR ⟨g,cs,ha,hb,hk.upd e (hne _ ha),r⟩
theorem Own.mono {base':Nat}(h:Own w base t s A n cap vs)(hb:base'≤base):Own w base' t s A n cap vs:=by
 rcases h with h | ⟨g,cs,ha,hg,r⟩
 ·exact cE h
 ·exact bR ⟨g,cs,ha,by omega,r⟩
theorem Own.rv (h:Own w base t s A n cap vs):Rv w s A n cap vs:=by
 rcases h with⟨rfl,rfl,rfl,rfl⟩ | ⟨g,cs,rfl,hb,hk,hn,hm,hl,rfl⟩
 ·exact Rv.nil w s
 ·have hle:n*s≤cap*s:=eA s hn
  refine⟨by rw [bJ];omega,hn,hm,fun i hi=>⟨_,rfl,?_⟩,fun a ha _=>by cases ha;exact hk.lt⟩
  rw [kX,f9,hk.cell (by omega)]
  congr 1
  simp only [bC,kJ]
  rw [if_pos hi]
theorem Own.rd (h:Own w base t 1 A n cap (xs.map aW))(hw:Wf xs):Rd w A n cap xs:=⟨h.rv,hw⟩
theorem Own.block (h:Own w base t s A n cap vs):∀a,A=some a→base≤a.block∧a.block<w.heap.size:=by
 intro a ha
 rcases h with h | ⟨g,cs,hA,hb,hk,_⟩
 ·rw [h.1] at ha;cases ha
 ·rw [hA] at ha;cases ha;exact⟨hb,hk.lt⟩
end
theorem eY:maxLen=9223372036854775807:=rfl
theorem eG (xs:List Nat)(i x:Nat):(xs.map aW).set i (.int .u64 (x:Int))=(xs.set i x).map aW:=by rw [List.map_set]
def zc (z:aH)(n:Nat):Array aH:=(bP n z).toArray
theorem wT (z:aH)(n:Nat):(zc z n).toList=bP n z:=rfl
theorem lM (ht:P.underlying t=some (.slice e))(hinfo:(P.info? e).map (fun i=>(i.zero,i.size,i.bytes))=some (some z,1,bytes))(hz:z.cells= #[z])(hby:bytes≤64)(l:Int)(h0:0≤l)(h1:l≤1099511627776)(w:a6):
  (rB t (.int .i64 l) (.int .i64 l)).run P w= .ok (.slice (some ⟨w.heap.size,0,none⟩) l.toNat l.toNat) (w.alloc (.cells (zc z l.toNat) e)):=by
 obtain⟨i,hi,hz0,hz1,hz2⟩:=info_parts hinfo
 have h:=run_make (P:=P) w t e i z ht hi hz0 .i64 .i64 l l h0 (Int.le_refl _) (by rw [hz2];have:(bytes:Int)*l≤64*1099511627776:=Int.mul_le_mul (by omega) h1 h0 (by omega);omega) (by omega)
 rw [h,hz1,cI,hz]
 congr 3
 apply Array.ext'
 rw [toList_madeCells_one,wT]
theorem H6 (ht:P.underlying t=some (.slice e))(hinfo:(P.info? e).map (fun i=>(i.zero,i.size,i.bytes))=some (some z,1,bytes))(hz:z.cells= #[z])(hby:bytes≤64)(l:Int)(h0:0≤l)(h1:l≤1099511627776)(w:a6):
  (rB t (.int .i64 0) (.int .i64 l)).run P w= .ok (.slice (some ⟨w.heap.size,0,none⟩) 0 l.toNat) (w.alloc (.cells (zc z l.toNat) e)):=by
 obtain⟨i,hi,hz0,hz1,hz2⟩:=info_parts hinfo
 have h:=run_make (P:=P) w t e i z ht hi hz0 .i64 .i64 0 l (by omega) h0 (by rw [hz2];have:(bytes:Int)*l≤64*1099511627776:=Int.mul_le_mul (by omega) h1 h0 (by omega);omega) (by omega)
 rw [h,hz1,cI,hz]
 congr 3
 apply Array.ext'
 rw [toList_madeCells_one,wT]
theorem Upd.setRow {a w:a6}(h:Upd g a w)(cs:Array aH):Upd g a (w.setRow g cs):=
 h.trans ⟨⟨rfl,rfl,rfl,by simp [World.setRow],fun k hk hne=>setRow_other w g k cs (fun e=>hne (by rw [e]))⟩⟩
theorem dZ {w:a6}{Q:dR→Act→a6→Prop}(d:Option Tmp){op:Op}{type:aT}{pos:String}(h:wpList P ops Q (⟨d,op,type,pos,after,guard⟩::rest) a w):wpList P ops Q (⟨d,op,type,pos,after,guard⟩::rest) a w:=h
theorem wW {w:a6}{Q:dR→Act→a6→Prop}(hgd:o.guard=none)(d s:cS)(dT sT:aT)(ho:o.op= .call {callee:= .builtin .copy,args:= #[d,s],argTypes:= #[dT,sT]}){dLen dCap sLen sCap:Nat}(hd:a.eval d= .slice dp dLen dCap)(hs:a.eval s= .slice sp sLen sCap){elem:aT}(hu:P.underlying dT=some (.slice elem))(hsz:(P.info? elem).map (·.size)=some 1){off:Nat}(hg:Bk w g t vs)(hsrc:Rv w 1 sp sLen sCap us)(hpos:0<dLen→dp=some ⟨g,off,none⟩)(hfit:off+dLen≤vs.length)(h1:∀v∈us,v.oneCell'=true)(h:∀w',Bk w' g t (splice vs off (us.take dLen))→Upd g w w'→wpList P ops Q rest (a.put o.dst (goInt (min sLen dLen:Nat))) w'):wpList P ops Q (o::rest) a w:=by
 have hlen:us.length=sLen:=by simpa using hsrc.len
 have hl:(us.take dLen).length=Nat.min sLen dLen:=by rw [bJ,hlen,Nat.min_comm]
 by_cases h0:Nat.min sLen dLen=0
 ·refine wpList_copy_nothing hgd d s dT sT ho elem hu hsz dp sp dLen dCap sLen sCap hd hs h0 ?_
  have e:us.take dLen= []:=EH (by omega)
  have:=h w (by rw [e];simpa [splice] using hg) (Upd.refl g w)
  rwa [show (min sLen dLen:Nat)=0 from h0] at this
 ·have h0':¬min sLen dLen=0:=h0
  have hd0:0<dLen:=by omega
  obtain⟨ad,rfl,_⟩:=hsrc.get 0 (by omega)
  obtain rfl:=hpos hd0
  refine wpList_copy_own hgd d s dT sT ho elem hu hsz g off dLen dCap ad sLen sCap hd hs vs.toArray t hg (us.take dLen) hl ?_ ?_ (fun v hv=>h1 v (l5 hv)) ?_
  ·intro j v hv
   have hj:j<(us.take dLen).length:=(iO.1 hv).1
   have hj':j<min sLen dLen:=by rw [hl] at hj;exact hj
   obtain⟨a',ha',hc⟩:=hsrc.get j (by omega)
   cases ha'
   rw [hc,←hv,kJ,if_pos (by omega),bC,cJ (by omega)]
   rfl
  ·simp only [List.size_toArray]
   have:(us.take dLen).length≤dLen:=by rw [bJ];omega
   omega
  ·have h':=h
   rw [show min sLen dLen=(us.take dLen).length from hl.symm] at h'
   refine h' _ ?_ ((Upd.refl g w).setRow _)
   show _=_
   simpa [splice] using setRow_heap w g _ _ t _ hg
structure UpdO (A:Option aC)(w w':a6):Prop where
 by_:w.grownBy w' (A.map (·.block))
theorem UpdO.ext {a w w':a6}(h:UpdO A w w')(e:Ext a w)(hA:∀p,A=some p→a.heap.size≤p.block):Ext a w':=
 e.grown h.by_ (fun k hk=>by cases A with | none=>cases hk | some p=>cases hk;exact hA p rfl)
theorem UpdO.heap {w w':a6}(h:UpdO A w w'){o:Obj}(hc:w.heap[k]?=some o)(hne:∀p,A=some p→p.block≠k):w'.heap[k]?=some o:=
 (h.by_.block k (pV.1 hc).1 (fun e=>by cases A with | none=>cases e | some p=>cases e;exact hne p rfl rfl)).trans hc
theorem UpdO.size {w w':a6}(h:UpdO A w w'):w.heap.size≤w'.heap.size:=h.by_.size
theorem Bk.updO {w w':a6}(h:Bk w g t vs)(e:UpdO A w w')(hne:∀p,A=some p→p.block≠g):Bk w' g t vs:=e.heap h hne
theorem Own.updO {w w':a6}(h:Own w base t s B n cap vs)(e:UpdO A w w')(hne:∀p q,A=some p→B=some q→p.block≠q.block):Own w' base t s B n cap vs:=by
 rcases h with h | ⟨g,cs,ha,hb,hk,r⟩
 ·exact cE h
 ·exact bR ⟨g,cs,ha,hb,hk.updO e (fun p hp=>hne p _ hp ha),r⟩
theorem Own.row {w:a6}(h:Own w base t s A n cap vs):w.ownsRow base t s (.slice A n cap) n vs:=by
 rcases h with⟨rfl,rfl,rfl,rfl⟩ | ⟨g,cs,rfl,hb,hk,hn,hm,hl,rfl⟩
 ·exact⟨by simp,cE ⟨rfl,rfl⟩⟩
 ·have hle:n*s≤cap*s:=eA s hn
  exact⟨by rw [bJ];omega,bR ⟨g,cap,cs.toArray,rfl,hb,hk,hn,hm,by simpa using hl,by simp⟩⟩
theorem Own.of_row {w:a6}(h:w.ownsRow base t s v n vs):∃A cap,v= .slice A n cap∧Own w base t s A n cap vs:=by
 obtain⟨hl,h⟩:=h
 rcases h with⟨rfl,rfl⟩ | ⟨g,cap,cur,rfl,hb,hk,hn,hm,hs,ht⟩
 ·exact⟨none,0,rfl,cE ⟨rfl,rfl,rfl,EH (by simpa using hl)⟩⟩
 ·exact⟨_,_,rfl,bR ⟨g,cur.toList,rfl,hb,by unfold Bk;simpa using hk,hn,hm,by simpa using hs,ht⟩⟩
theorem CB (A:Option aC)(n cap:Nat):(Value.slice A n cap).ownBlock=A.map (·.block):=by cases A <;> rfl
theorem SW (w:a6)(base:Nat)(t ty e:aT)(i:TypeInfo)(size:Nat)(ht:P.underlying t=some (.slice e))(hi:P.info? e=some i)(v:aH)(n:Nat)(xs:List aH)(hown:w.ownsRow base e size v n xs)(c:Nat):(rC #[t,t] ty #[v,.slice none 0 c]).run P w= .ok v w:=by
 rcases hown.2 with⟨rfl,rfl⟩ | ⟨g,cap,cur,rfl,_,_,hnc,_⟩
 ·simp [rC,kZ ht,sizeOf,typeInfo,hi,Builtin.lenOf,O7]
 ·simp [rC,kZ ht,sizeOf,typeInfo,hi,Builtin.lenOf,O7,hnc,storeCells]
theorem F1 {w:a6}{Q:dR→Act→a6→Prop}(hgd:o.guard=none)(s x:cS)(t:aT)(ho:o.op= .call {callee:= .builtin .append,args:= #[s,x],argTypes:= #[t,t]}){c:Nat}(hs:a.eval s= .slice A n cap)(hx:a.eval x= .slice S m c){size:Nat}(ht:P.underlying t=some (.slice e))(hinfo:(P.info? e).map (fun i=>(i.zero,i.size,i.bytes))=some (some z,size,bytes))(hzs:z.cells.size=size)(hsz:0<size){news:List aH}(hown:Own w base e size A n cap vs)(hsrc:Rv w size S m c news)(h1:∀u∈news,u.oneCell'=true)(hbytes:(n+m)*bytes≤140737488355328)(h63:n+m≤maxLen)(hbase:base≤w.heap.size)(h:∀A' cap' w',Own w' base e size A' (n+m) cap' (vs++news)→UpdO A w w'→(A'.map (·.block)=A.map (·.block)∨A'.map (·.block)=some w.heap.size)→
   wpList P ops Q rest (a.put o.dst (.slice A' (n+m) cap')) w'):wpList P ops Q (o::rest) a w:=by
 obtain⟨i,hi,hz0,hz1,hz2⟩:=info_parts hinfo
 cases S with
 | none=>
  have hm:m=0:=by
   rcases mH m with h0 | h0
   ·exact h0
   ·obtain⟨ad,h,_⟩:=hsrc.get 0 (fS h0 hsz)
    cases h
  subst hm
  have hn:news= []:=EH (by simpa using hsrc.len)
  subst hn
  refine AM hgd fun K hK=>?_
  have hr:=SW (P:=P) w base t o.type e i size ht hi (.slice A n cap) n vs hown.row c
  unfold nF execOp
  simp only [ho,resolve,invoke,builtin,cK,gN,f8,pT,iN,j7,hs,hx,hr]
  exact hK _ _ (h A cap w (by simpa using hown) ⟨EE _ _⟩ (cE rfl))
 | some ad=>
  refine wpList_append_own_at w hgd s x t ho base e i z size bytes ht hi hz0 hz1 hz2 hzs hsz (.slice A n cap) n vs hs hown.row ad m c news hx hsrc.len ?_ h1 h63 hbytes hbase ?_
  ·intro j u hu
   have hj:j<news.length:=(iO.1 hu).1
   obtain⟨a',ha',hc⟩:=hsrc.get j (by rw [←hsrc.len];exact hj)
   cases ha'
   rw [hc,←hu,bC,cJ hj]
   rfl
  ·intro v' w' h2 h3 _ h5
   obtain⟨A',cap',rfl,h6⟩:=Own.of_row h2
   rw [CB,CB] at h5
   rw [CB] at h3
   exact h A' cap' w' h6 ⟨h3⟩ h5
theorem Rv.one (w:a6)(t:aT)(v:aH):Rv (w.alloc (.cells #[v] t)) 1 (some ⟨w.heap.size,0,none⟩) 1 1 [v]:=by
 have h:=Bk.new w t [v]
 exact h.rv (o:=0) (n:=1) (cap:=1) (b8 _) (by simp) (by rw [eY];omega)
theorem E6 (xs:List Nat):∀v∈xs.map aW,v.oneCell'=true:=by
 intro v hv
 obtain⟨x,_,rfl⟩:=List.mem_map.1 hv
 rfl
theorem BL (xs ys:List Nat)(o:Nat):splice (xs.map aW) o (ys.map aW)=(splice xs o ys).map aW:=by
 simp [splice,k5,uF]
theorem QX {α:Type}(xs ys:List α)(h:ys.length=xs.length):splice xs 0 ys=ys:=by
 simp [splice,h]
theorem kR (n:Nat):bP n (bV .u64 0)=(bP n 0).map aW:=by rw [List.map_replicate];rfl
abbrev Fr:=List (Nat×aH)
def look:Fr→Nat→Option aH
 | [],_=>none
 | (j,v)::l,i=>bif pR j i then some v else look l i
structure Rp (n:Nat)(l:Fr)(a:Act):Prop where
 size:a.tmps.size=n
 nod:a.defers= []
 val:∀i v,look l i=some v→a.tmps.getD i undef=v
def bZ (l:Fr):cS→Option aH
 | .tmp i=>look l i
 | .const v=>some v
 | .global g=>some (.pointer (some ⟨g,0,none⟩))
 | .func f=>some (.func (.func f) #[] #[])
def rho (l:Fr)(x:cS):aH:=(bZ l x).getD undef
theorem Rp.ev {l:Fr}(h:Rp n l a){x:cS}(hx:bZ l x=some v):a.eval x=v:=by
 cases x with
 | tmp i=>exact h.val i v hx
 | const u=>exact l4 hx
 | global g=>exact l4 hx
 | func f=>exact l4 hx
theorem Rp.rho {l:Fr}(h:Rp n l a){x:cS}(hx:(bZ l x).isSome=true):a.eval x=rho l x:=by
 obtain⟨v,hv⟩:=Option.isSome_iff_exists.1 hx
 rw [h.ev hv,Go.Proofs.YtkepckmdjncehaaGreatDoor.rho,hv];rfl
theorem Rp.put {l:Fr}(h:Rp n l a)(hd:d<n)(v:aH):Rp n ((d,v)::l) (a.put (some d) v):=by
 refine⟨by simp [oM,h.size],by simp [oM,h.nod],fun i u hi=>?_⟩
 simp only [look] at hi
 have hs:d<a.tmps.size:=by rw [h.size];exact hd
 by_cases e:d=i
 ·subst e
  rw [Nat.beq_refl] at hi
  cases hi
  simp [oM,hs]
 ·have hb:pR d i=false:=by
   cases hh:pR d i with
   | false=>rfl
   | true=>exact absurd (sL hh) e
  rw [hb] at hi
  have:=h.val i u hi
  simp only [oM,rD] at this⊢
  rwa [EM e]
def Keeps (l:Fr):Fr→Prop
 | []=>True
 | (i,v)::r=>look l i=some v∧Keeps l r
theorem Keeps.look {l:Fr}:∀{l':Fr},Keeps l l'→∀i v,look l' i=some v→look l i=some v
 | [],_,i,v,h=>by cases h
 | (j,u)::r,hk,i,v,h=>by
  simp only [Go.Proofs.YtkepckmdjncehaaGreatDoor.look] at h
  cases hb:pR j i with
  | true=>
   rw [hb] at h
   have e:=sL hb
   subst e
   cases h
   exact hk.1
  | false=>
   rw [hb] at h
   exact hk.2.look i v h
theorem Rp.keep {l l':Fr}(h:Rp n l a)(hk:Keeps l l'):Rp n l' a:=⟨h.size,h.nod,fun i v hi=>h.val i v (hk.look i v hi)⟩
section
variable {P:cD}{Q:dR→Act→a6→Prop}{n:Nat}{l:Fr}{w:a6}
def cw (P:cD)(Q:dR→Act→a6→Prop)(n:Nat)(c:Code)(l:Fr)(w:a6):Prop:=∀a,Rp n l a→c.wp P Q a w
def wl (P:cD)(ops:Array aX)(Q:dR→Act→a6→Prop)(n:Nat)(rest:List aX)(l:Fr)(w:a6):Prop:=∀a,Rp n l a→wpList P ops Q rest a w
def eo (Q:dR→Act→a6→Prop)(e:dR)(n:Nat)(l:Fr)(w:a6):Prop:=∀a,Rp n l a→Q e a w
theorem bE (l':Fr)(hk:Keeps l l')(h:cw P Q n c l' w):cw P Q n c l w:=fun a ha=>h a (ha.keep hk)
theorem mD {e:dR}(l':Fr)(hk:Keeps l l')(h:eo Q e n l' w):eo Q e n l w:=fun a ha=>h a (ha.keep hk)
theorem aA {x y:Code}(h:cw P (Exit.then (fun a w=>y.wp P Q a w) Q) n x l w):cw P Q n (.seq x y) l w:=fun a ha=>wp_seq (h a ha)
theorem a7 (h:wl P ol.toArray Q n ol l w):cw P Q n (.region id ol.toArray false) l w:=fun a ha=>wp_region_lit (h a ha)
theorem aU (h:eo Q .normal n l w):wl P ops Q n [] l w:=fun a ha=>wpList_nil (h a ha)
theorem aD {y:Code}(h:cw P Q n y l w):eo (Exit.then (fun a w=>y.wp P Q a w) Q) .normal n l w:=h
theorem aN (h:eo Q .normal n l w):cw P Q n .skip l w:=fun a ha=>wp_skip (h a ha)
theorem cR (h:eo Q (.exit i) n l w):cw P Q n (.exit i) l w:=fun a ha=>wp_exit (h a ha)
theorem aM (h:eo Q .ret n l w):cw P Q n .ret l w:=fun a ha=>wp_ret (h a ha)
theorem bG (h:cw P (sN i Q) n c l w):cw P Q n (.block i c) l w:=fun a ha=>wp_block (h a ha)
theorem aP {c:cS}{x y:Code}(hc:bZ l c=some (.bool true))(h:cw P Q n x l w):cw P Q n (.cond c x y) l w:=fun a ha=>wp_cond_true (ha.ev hc) (h a ha)
theorem aI {c:cS}{x y:Code}(hc:bZ l c=some (.bool false))(h:cw P Q n y l w):cw P Q n (.cond c x y) l w:=fun a ha=>wp_cond_false (ha.ev hc) (h a ha)
theorem cQ (h:eo Q .normal n l w):eo (sN i Q) (.exit i) n l w:=fun a ha=>by simp only [sN,if_true];exact h a ha
theorem D3 (h:eo Q (.exit j) n l w)(hne:j≠i:=by decide):eo (sN i Q) (.exit j) n l w:=fun a ha=>by simp only [sN,if_neg hne];exact h a ha
theorem eC (h:eo Q .ret n l w):eo (sN i Q) .ret n l w:=h
theorem cA (h:eo Q .normal n l w):eo (sN i Q) .normal n l w:=h
def EC {T:Type}(n:Nat)(F:T→Fr)(W:T→a6)(H:T→Prop)(Q:dR→Act→a6→Prop):dR→Act→a6→Prop
 | .normal,a,w=>∃t,H t∧W t=w∧Rp n (F t) a
 | e,a,w=>Q e a w
theorem dG {F:T→Fr}{W:T→a6}{H:T→Prop}(t:T)(hH:H t)(hW:W t=w)(hk:Keeps l (F t)):eo (EC n F W H Q) .normal n l w:=fun _ ha=>⟨t,hH,hW,ha.keep hk⟩
theorem i8 (F:T→Fr)(W:T→a6)(H:T→Prop){x y:Code}(hx:cw P (EC n F W H Q) n x l w)(hy:∀t,H t→cw P Q n y (F t) (W t)):cw P Q n (.seq x y) l w:=
 aA fun a ha=>EJ (fun e a' w' h=>by
  cases e with
  | normal=>obtain⟨t,hH,rfl,hr⟩:=h;exact hy t hH a' hr
  | _=>exact h) (hx a ha)
def AE {T:Type}(n:Nat)(F:T→Fr)(W:T→a6)(H:T→Prop)(m:T→Nat)(k:Nat)(Q:dR→Act→a6→Prop):dR→Act→a6→Prop
 | .normal,a,w=>∃t,H t∧m t<k∧W t=w∧Rp n (F t) a
 | e,a,w=>Q e a w
theorem cH {F:T→Fr}{W:T→a6}{H:T→Prop}{m:T→Nat}(t:T)(hH:H t)(hm:m t<k)(hW:W t=w)(hk:Keeps l (F t)):eo (AE n F W H m k Q) .normal n l w:=fun _ ha=>⟨t,hH,hm,hW,ha.keep hk⟩
theorem d4 (F:T→Fr)(W:T→a6)(H:T→Prop)(m:T→Nat)(t0:T)(h0:H t0)(hW:W t0=w)(hk:Keeps l (F t0))(round:∀t,H t→cw P (AE n F W H m (m t) Q) n c (F t) (W t)):cw P Q n (.loop c) l w:=by
 classical
 intro a ha
 let S:Act→a6→Nat→Prop:=fun a w k=>∃t,H t∧m t=k∧W t=w∧Rp n (F t) a
 let I:Act→a6→Prop:=fun a w=>∃k,S a w k
 have hmin:∀a w,I a w→∃k,S a w k∧∀j,S a w j→k≤j:=by
  intro a w ⟨k,hk⟩
  induction k using sH with
  | ind k ih=>
   by_cases hs:∃j,S a w j∧j<k
   ·obtain⟨j,hj,hlt⟩:=hs
    exact ih j hlt hj
   ·exact⟨k,hk,fun j hj=>pQ fun hlt=>hs ⟨j,hj,hlt⟩⟩
 let μ:Act→a6→Nat:=fun a w=>if h:I a w then EK (hmin a w h) else 0
 refine wp_loop I μ ⟨m t0,t0,h0,rfl,hW,ha.keep hk⟩ ?_
 intro a w hI
 have hμ:μ a w=EK (hmin a w hI):=dif_pos hI
 obtain⟨hS,hle⟩:=O6 (hmin a w hI)
 rw [←hμ] at hS hle
 obtain⟨t,hH,hm,rfl,hr⟩:=hS
 refine EJ ?_ (round t hH a hr)
 intro e a' w' h
 cases e with
 | normal=>
  obtain⟨t',hH',hm',hW',hr'⟩:=h
  have hI':I a' w':=⟨m t',t',hH',rfl,hW',hr'⟩
  refine⟨hI',?_⟩
  have hμ':μ a' w'=EK (hmin a' w' hI'):=dif_pos hI'
  have:=(O6 (hmin a' w' hI')).2 (m t') ⟨t',hH',rfl,hW',hr'⟩
  omega
 | _=>exact h
theorem bL {K:Act→a6→Prop}(h:eo Q .ret n l w):eo (Exit.then K Q) .ret n l w:=h
theorem cN {K:Act→a6→Prop}(h:eo Q (.exit i) n l w):eo (Exit.then K Q) (.exit i) n l w:=h
theorem LM {F:T→Fr}{W:T→a6}{H:T→Prop}(h:eo Q .ret n l w):eo (EC n F W H Q) .ret n l w:=h
theorem mY {F:T→Fr}{W:T→a6}{H:T→Prop}{m:T→Nat}(h:eo Q .ret n l w):eo (AE n F W H m k Q) .ret n l w:=h
theorem cP {F:T→Fr}{W:T→a6}{H:T→Prop}{m:T→Nat}(h:eo Q (.exit i) n l w):eo (AE n F W H m k Q) (.exit i) n l w:=h
theorem cC (l':Fr)(w':a6)(hw:w=w')(hk:Keeps l l')(h:cw P Q n c l' w'):cw P Q n c l w:=by subst hw;exact bE l' hk h
def zV:List aH→Nat→Fr
 | [],_=> []
 | v::r,i=>(i,v)::zV r (i+1)
theorem KG:∀(args:List aH) (k i:Nat) (v:aH),look (zV args k) i=some v→k≤i∧args[i-k]?=some v
 | [],k,i,v,h=>by cases h
 | u::r,k,i,v,h=>by
  simp only [zV,look] at h
  cases hb:pR k i with
  | true=>
   rw [hb] at h
   have e:=sL hb
   subst e
   cases h
   simp
  | false=>
   rw [hb] at h
   obtain⟨h1,h2⟩:=KG r (k+1) i v h
   refine⟨by omega,?_⟩
   have:i-k=(i-(k+1))+1:=by omega
   rw [this];simpa using h2
theorem bK {R:fA→a6→Prop}(hf:P.funcs[f]?=some fn)(hb:fn.body=some c)(hn:fn.ntmps=n)(hle:args.length≤n)(h:cw P (bodyPost P fn R) n c (zV args 0) w):aO P f args.toArray w R:=by
 refine calls_of_wp hf hb (h _ ⟨?_,rfl,fun i v hi=>?_⟩)
 ·simp [hn];omega
 ·obtain⟨_,h2⟩:=KG args 0 i v hi
  rw [Nat.sub_zero] at h2
  have hlt:i<args.length:=(iO.1 h2).1
  simp only [rD]
  rw [Array.getElem?_append_left (by simpa using hlt)]
  simp [h2]
def t8 (P:cD)(w:a6)(l:Fr):List u3→List aH→Prop
 | [],[]=>True
 | .tmp t::r,v::vs=>look l t=some v∧t8 P w l r vs
 | .cell s t::r,v::vs=>(∃a,look l s=some (.pointer (some a))∧(loadVar t a).run P w= .ok v w)∧t8 P w l r vs
 | _,_=>False
def rK (tmps:Array aH):u3→Sem aH
 | .tmp t=>pure (tmps.getD t undef)
 | .cell s t=>do loadVar t (←asAddr (tmps.getD s undef))
theorem BT {a:Act}(ha:Rp n l a):∀(rl:List u3) (vs:List aH),t8 P w l rl vs→(rl.mapM (rK a.tmps)).run P w= .ok vs w
 | [],[],_=>rfl
 | [],_::_,h=>by cases h
 | .tmp _::_,[],h=>by cases h
 | .cell _ _::_,[],h=>by cases h
 | .tmp t::rl,v::vs,h=>by
  obtain⟨h1,h2⟩:=h
  have h3:(rK a.tmps (.tmp t)).run P w= .ok v w:=by
   show (Sem.pure (a.tmps.getD t undef)).run P w=_
   rw [ha.val t v h1];rfl
  rw [List.mapM_cons]
  simp only [cK,h3,f8,BT ha rl vs h2,gN]
 | .cell s t::rl,v::vs,h=>by
  obtain⟨⟨p,h1,h4⟩,h2⟩:=h
  have h3:(rK a.tmps (.cell s t)).run P w= .ok v w:=by
   have e:(do loadVar t (←asAddr (a.tmps.getD s undef)):Sem aH).run P w= .ok v w:=by
    rw [ha.val s _ h1];simpa [asAddr] using h4
   exact e
  rw [List.mapM_cons]
  simp only [cK,h3,f8,BT ha rl vs h2,gN]
def C3:List aH→aH
 | [v]=>v
 | vs=> .tuple vs.toArray
theorem H0 {rl:List u3}(hr:fn.results=rl.toArray)(ha:Rp n l a)(h:t8 P w l rl vs):
  (results fn a.tmps).run P w= .ok (C3 vs) w:=by
 have h1:=BT ha rl vs h
 have e:results fn a.tmps=(do let vs←fn.results.mapM (rK a.tmps);pure (if h:vs.size=1 then vs[0] else .tuple vs)):=rfl
 have e2:(fn.results.mapM (rK a.tmps)).run P w= .ok vs.toArray w:=by
  rw [hr,List.mapM_toArray]
  have e3:(List.toArray<$>rl.mapM (rK a.tmps):Sem (Array aH))=(rl.mapM (rK a.tmps)>>=fun x=>pure x.toArray):=by rw [bind_pure_comp]
  rw [e3]
  simp only [cK,h1,f8,gN]
 rw [e]
 simp only [cK,e2,f8,gN]
 match vs with
 | []=>rfl
 | [v]=>rfl
 | u::v::r=>rfl
theorem aL {R:fA→a6→Prop}{rl:List u3}(vs:List aH)(hr:fn.results=rl.toArray)(h:t8 P w l rl vs)(hR:R (.returned (C3 vs)) w):eo (bodyPost P fn R) .ret n l w:=
 fun _ ha=>nD (H0 hr ha h) ha.nod hR
theorem vW {R:fA→a6→Prop}{rl:List u3}(vs:List aH)(hr:fn.results=rl.toArray)(h:t8 P w l rl vs)(hR:R (.returned (C3 vs)) w):eo (bodyPost P fn R) .normal n l w:=
 fun _ ha=>bodyPost_end (H0 hr ha h) ha.nod hR
section ops
variable {ops:Array aX}{rest:List aX}{d:Nat}{op:Op}{ty:aT}{pos:String}{af:Array Edge}
def dI (ops:Array aX)(l:Fr):Option (Nat×Bool)→Option Bool
 | none=>some true
 | some (g,b)=>
  match (ops[g]?).bind (·.dst) with
  | some c=>
   match look l c with
   | some (.bool x)=>some (x==b)
   | some (.tuple _)=>some false
   | _=>none
  | none=>none
theorem BB {r:Bool}(h:dI ops l gd=some r)(ha:Rp n l a):u6 ⟨dst,op,ty,pos,af,gd⟩ (yielded ops a.tmps)=r:=by
 cases gd with
 | none=>exact l4 h
 | some p=>
  obtain⟨g,b⟩:=p
  simp only [dI] at h
  simp only [u6]
  cases hc:(ops[g]?).bind (·.dst) with
  | none=>rw [hc] at h;cases h
  | some c=>
   rw [hc] at h
   simp only at h
   have hy:yielded ops a.tmps g=match a.tmps[c]? with | some (.bool b)=>some b | _=>none:=by
    unfold yielded;rw [hc];rfl
   cases hl:look l c with
   | none=>rw [hl] at h;cases h
   | some u=>
    rw [hl] at h
    have hu:=ha.val c u hl
    rw [rD] at hu
    cases u with
    | bool x=>
     simp only [fL] at h
     cases hx:a.tmps[c]? with
     | none=>rw [hx] at hu;cases hu
     | some v=>
      rw [hx] at hu
      simp only [nE] at hu
      subst hu
      rw [hy,hx,←h]
      cases x <;> cases b <;> rfl
    | tuple vs=>
     simp only [fL] at h
     cases hx:a.tmps[c]? with
     | none=>rw [hy,hx,←h];rfl
     | some v=>
      rw [hx] at hu
      simp only [nE] at hu
      subst hu
      rw [hy,hx,←h];rfl
    | _=>cases h
variable {gd:Option (Nat×Bool)}
theorem B6 (hw:dI ops l gd=some true)(ha:Rp n l a)(h:∀K:Act→a6→Prop,(∀a w,wpList P ops Q rest a w→K a w)→nF P ⟨dst,op,ty,pos,af,gd⟩ a w K Q):wpList P ops Q (⟨dst,op,ty,pos,af,gd⟩::rest) a w:=
 wpList_step fun K hK=>by rw [BB hw ha];exact h K hK
theorem OY (hw:dI ops l gd=some false)(hn:d<n)(h:wl P ops Q n rest ((d,undef)::l) w):wl P ops Q n (⟨some d,op,ty,pos,af,gd⟩::rest) l w:=fun a ha=>
 wpList_step fun K hK=>by
  rw [BB hw ha]
  exact hK _ _ (h _ (ha.put hn undef))
theorem fJ {w':a6}(hw:dI ops l gd=some true)(hn:d<n)(hr:∀a,Rp n l a→(execOp a.eval ⟨some d,op,ty,pos,af,gd⟩).run P w= .ok (.value v) w')(h:wl P ops Q n rest ((d,v)::l) w'):wl P ops Q n (⟨some d,op,ty,pos,af,gd⟩::rest) l w:=fun a ha=>by
 refine B6 hw ha fun K hK=>?_
 unfold nF
 rw [hr a ha]
 exact hK _ _ (h _ (ha.put hn v))
theorem OV {w':a6}(hw:dI ops l gd=some true)(hr:∀a,Rp n l a→(execOp a.eval ⟨none,op,ty,pos,af,gd⟩).run P w= .ok .skip w')(h:wl P ops Q n rest l w'):wl P ops Q n (⟨none,op,ty,pos,af,gd⟩::rest) l w:=fun a ha=>by
 refine B6 hw ha fun K hK=>?_
 unfold nF
 rw [hr a ha]
 exact hK _ _ (h _ ha)
def yI:Op→Bool
 | .select .. =>false
 | _=>true
def mC (l:Fr)(op:Op):Bool:=yI op&&op.operands.toList.all fun x=>(bZ l x).isSome
theorem vV {g:Option (Nat×Bool)}(hk:mC l op=true)(ha:Rp n l a):
  execOp a.eval ⟨dst,op,ty,pos,af,g⟩=execOp (rho l) ⟨dst,op,ty,pos,af,g⟩:=by
 simp only [mC,fE,fU] at hk
 refine execOp_congr _ (fun cs b e=>?_) (fun x hx=>ha.rho (hk.2 x (by simpa using hx)))
 simp only at e
 rw [e] at hk
 exact absurd hk.1 (by simp [yI])
theorem F5 (hw:dI ops l gd=some true)(hk:mC l op=true)(hn:d<n)(hr:(execOp (rho l) ⟨some d,op,ty,pos,af,gd⟩).run P w= .ok (.value v) w)(h:wl P ops Q n rest ((d,v)::l) w):wl P ops Q n (⟨some d,op,ty,pos,af,gd⟩::rest) l w:=
 fJ hw hn (fun a ha=>by rw [vV hk ha];exact hr) h
theorem P0 {x:cS}(hw:dI ops l gd=some true)(hx:bZ l x=some v)(hn:d<n)(h:wl P ops Q n rest ((d,v)::l) w):wl P ops Q n (⟨some d,.move x,ty,pos,af,gd⟩::rest) l w:=
 fJ hw hn (fun a ha=>by simp only [execOp,ha.ev hx];rfl) h
theorem P6 {x:cS}(hw:dI ops l gd=some true)(hx:bZ l x=some v)(hn:d<n)(h:wl P ops Q n rest ((d,v)::l) w):wl P ops Q n (⟨some d,.assign x,ty,pos,af,gd⟩::rest) l w:=
 fJ hw hn (fun a ha=>by simp only [execOp,ha.ev hx];rfl) h
theorem aS {x:cS}(hw:dI ops l gd=some true)(hx:bZ l x=some (.pointer (some p)))(hl:(loadVar t p).run P w= .ok v w)(h:wl P ops Q n rest ((d,v)::l) w)(hn:d<n:=by decide):wl P ops Q n (⟨some d,.load t x,ty,pos,af,gd⟩::rest) l w:=
 fJ hw hn (fun a ha=>by
  have e:(AY t (a.eval x)).run P w= .ok v w:=by rw [ha.ev hx];exact hl
  show ((AY t (a.eval x)>>=fun r=>pure (fZ r):Sem fH)).run P w=_
  rw [cK,e];rfl) h
theorem wY {x y:cS}{w':a6}(hw:dI ops l gd=some true)(hx:bZ l x=some (.pointer (some p)))(hy:bZ l y=some v)(hs:(storeVar t p v).run P w= .ok () w')(h:wl P ops Q n rest l w'):wl P ops Q n (⟨none,.store t x y,ty,pos,af,gd⟩::rest) l w:=
 OV hw (fun a ha=>by
  have e:(AX t (a.eval x) (a.eval y)).run P w= .ok () w':=by rw [ha.ev hx,ha.ev hy];exact hs
  show ((AX t (a.eval x) (a.eval y)>>=fun _=>pure Next.skip:Sem fH)).run P w=_
  rw [cK,e];rfl) h
def dY:jS→Int→Int→Option Bool
 | .eql,a,b=>some (a==b)
 | .neq,a,b=>some (a != b)
 | .lss,a,b=>some (decide (a<b))
 | .leq,a,b=>some (decide (a≤b))
 | .gtr,a,b=>some (decide (a>b))
 | .geq,a,b=>some (decide (a≥b))
 | _,_,_=>none
theorem H8 {o:jS}{k:jA}{a b:Int}{c:Bool}(hc:dY o a b=some c){x y:cS}:((do eqGuard o t x y (.int k a) (.int k b);binOp o t (.int k a) (.int k b)):Sem aH).run P w= .ok (.bool c) w:=by
 cases o <;> simp only [dY,fL,reduceCtorEq] at hc <;> subst hc <;> simp [eqGuard,binOp,Op.intCmp]
theorem aB (hw:dI ops l gd=some true){o:jS}{x y:cS}{k:jA}{a b:Int}(hx:bZ l x=some (.int k a))(hy:bZ l y=some (.int k b))(c:Bool)(hc:dY o a b=some c)(h:wl P ops Q n rest ((d,.bool c)::l) w)(hn:d<n:=by decide):wl P ops Q n (⟨some d,.binOp o t x y t',ty,pos,af,gd⟩::rest) l w:=
 fJ hw hn (fun a' ha=>by
  have e:((do eqGuard o t x y (a'.eval x) (a'.eval y);binOp o t (a'.eval x) (a'.eval y)):Sem aH).run P w= .ok (.bool c) w:=by
   rw [ha.ev hx,ha.ev hy];exact H8 hc
  show ((((do eqGuard o t x y (a'.eval x) (a'.eval y);binOp o t (a'.eval x) (a'.eval y)):Sem aH)>>=fun r=>pure (fZ r)):Sem fH).run P w=_
  rw [cK,e];rfl) h
def fQ:jS→jA→Int→Int→Option Int
 | .add,k,a,b=>some (k.wrap (a+b))
 | .sub,k,a,b=>some (k.wrap (a-b))
 | .mul,k,a,b=>some (k.wrap (a*b))
 | .quo,k,a,b=>if b=0 then none else some (k.wrap (a.tdiv b))
 | .rem,_,a,b=>if b=0 then none else some (a.tmod b)
 | _,_,_,_=>none
theorem H9 {o:jS}{k:jA}{a b c:Int}(hc:fQ o k a b=some c){x y:cS}:((do eqGuard o t x y (.int k a) (.int k b);binOp o t (.int k a) (.int k b)):Sem aH).run P w= .ok (.int k c) w:=by
 cases o <;> simp only [fQ,fL,reduceCtorEq] at hc
 case add=>subst hc;simp [eqGuard,binOp,EF]
 case sub=>subst hc;simp [eqGuard,binOp,EF]
 case mul=>subst hc;simp [eqGuard,binOp,EF]
 case quo=>
  by_cases hb:b=0
  ·rw [if_pos hb] at hc;cases hc
  ·rw [if_neg hb] at hc;cases hc;simp [eqGuard,binOp,wM,hb]
 case rem=>
  by_cases hb:b=0
  ·rw [if_pos hb] at hc;cases hc
  ·rw [if_neg hb] at hc;cases hc;simp [eqGuard,binOp,wM,hb]
theorem aE (hw:dI ops l gd=some true){o:jS}{x y:cS}{k:jA}{a b:Int}(hx:bZ l x=some (.int k a))(hy:bZ l y=some (.int k b))(c:Int)(hc:fQ o k a b=some c)(h:wl P ops Q n rest ((d,.int k c)::l) w)(hn:d<n:=by decide):wl P ops Q n (⟨some d,.binOp o t x y t',ty,pos,af,gd⟩::rest) l w:=
 fJ hw hn (fun a' ha=>by
  have e:((do eqGuard o t x y (a'.eval x) (a'.eval y);binOp o t (a'.eval x) (a'.eval y)):Sem aH).run P w= .ok (.int k c) w:=by
   rw [ha.ev hx,ha.ev hy];exact H9 hc
  show ((((do eqGuard o t x y (a'.eval x) (a'.eval y);binOp o t (a'.eval x) (a'.eval y)):Sem aH)>>=fun r=>pure (fZ r)):Sem fH).run P w=_
  rw [cK,e];rfl) h
structure NewBk (w w':a6)(g:Nat)(t:aT)(vs:List aH):Prop where
 at_:w.heap.size=g
 size:w'.heap.size=g+1
 bk:Bk w' g t vs
 ext:Ext w w'
theorem NewBk.mk' (w:a6)(t:aT)(vs:List aH):NewBk w (w.alloc (.cells vs.toArray t)) w.heap.size t vs:=⟨rfl,by simp,Bk.new w t vs,(Ext.refl w).alloc _⟩
theorem BU (hv:v.cells=vs.toArray):(newVar t v).run P w= .ok ⟨w.heap.size,0,none⟩ (w.alloc (.cells vs.toArray t)):=by
 unfold newVar newRow newObj
 rw [hv]
 rfl
theorem B9 {x:cS}(hw:dI ops l gd=some true)(hx:bZ l x=some v)(hv:v.cells=vs.toArray)(hn:d<n)(h:∀g w',NewBk w w' g t vs→wl P ops Q n rest ((d,.pointer (some ⟨g,0,none⟩))::l) w'):wl P ops Q n (⟨some d,.box t x,ty,pos,af,gd⟩::rest) l w:=
 fJ hw hn (fun a ha=>by
  have e:(Instr.box t (a.eval x)).run P w= .ok (.pointer (some ⟨w.heap.size,0,none⟩)) (w.alloc (.cells vs.toArray t)):=by
   rw [ha.ev hx]
   show ((newVar t v>>=fun r=>pure (wL (some r)):Sem aH)).run P w=_
   rw [cK,BU hv];rfl
  show ((Instr.box t (a.eval x)>>=fun r=>pure (fZ r):Sem fH)).run P w=_
  rw [cK,e];rfl) (h _ _ (NewBk.mk' w t vs))
theorem m5 (hw:dI ops l gd=some true)(hz:∀w,(zeroValue t).run P w= .ok z w)(hv:z.cells=vs.toArray)(h:∀g w',NewBk w w' g t vs→wl P ops Q n rest ((d,.pointer (some ⟨g,0,none⟩))::l) w')(hn:d<n:=by decide):wl P ops Q n (⟨some d,.alloc t,ty,pos,af,gd⟩::rest) l w:=
 fJ hw hn (fun a _=>by
  have e:(AZ t true (.tuple #[])).run P w= .ok (.pointer (some ⟨w.heap.size,0,none⟩)) (w.alloc (.cells vs.toArray t)):=by
   show ((zeroValue t>>=fun z=>(newVar t z>>=fun r=>pure (wL (some r))):Sem aH)).run P w=_
   rw [cK,hz w]
   show ((newVar t z>>=fun r=>pure (wL (some r)):Sem aH)).run P w=_
   rw [cK,BU hv];rfl
  show ((AZ t true (.tuple #[])>>=fun r=>pure (fZ r):Sem fH)).run P w=_
  rw [cK,e];rfl) (h _ _ (NewBk.mk' w t vs))
def NN (p:aH→Prop):fA→Prop
 | .returned v=>p v
 | _=>False
theorem dE {p:aH→Prop}(h:p v):NN p (.returned v):=h
theorem dD {xs:Array cS}{R:fA→a6→Prop}(hw:dI ops l gd=some true)(hk:mC l (.call {callee:= .value (.func f),args:=xs,argTypes:=ts})=true)(hr:(execOp (rho l) ⟨some d,.call {callee:= .value (.func f),args:=xs,argTypes:=ts},ty,pos,af,gd⟩).run P w= .ok (.enter f vs.toArray) w)(hn:d<n)(hc:aO P f vs.toArray w R)(h:∀e w',R e w'→NN (fun v=>wl P ops Q n rest ((d,v)::l) w') e):
  wl P ops Q n (⟨some d,.call {callee:= .value (.func f),args:=xs,argTypes:=ts},ty,pos,af,gd⟩::rest) l w:=fun a ha=>by
 refine B6 hw ha fun K hK=>?_
 unfold nF
 rw [vV hk ha,hr]
 refine hc.mono fun e w' hR=>?_
 have:=h e w' hR
 cases e with
 | returned v=>exact hK _ _ (this _ (ha.put hn v))
 | panicked c=>exact this.elim
 | outgrown=>exact this.elim
end ops
end
def NP (Q:dR→Act→a6→Prop):dR→Act→a6→Prop
 | .panic _,_,_=>False
 | e,a,w=>Q e a w
theorem NP.imp {Q:dR→Act→a6→Prop}:∀e a w,NP Q e a w→Q e a w:=fun e a w h=>by
 cases e <;> first | exact h | exact h.elim
theorem gQ {Q:dR→Act→a6→Prop}{l:Fr}{w:a6}(h:eo Q .normal n l w):eo (NP Q) .normal n l w:=h
def kG (Rs:List (aH→a6→Prop))(i:Nat):aH→a6→Prop:=(Rs[i]?).getD fun _ _=>True
def kP (a:Act):Option Tmp→aH
 | some d=>a.tmps.getD d undef
 | none=>undef
def C7 (d:Option Tmp)(v:aH)(l:Fr):Fr:=
 match d with
 | some d=>(d,v)::l
 | none=>l
def eV (ol:List aX)(j:Nat):Option Tmp:=(ol[j]?).bind (·.dst)
def yQ (o:aX)(j:Nat):Bool:=o.after.toList.any fun e=>jX .any e&&e.on==j
theorem Y3 (h:yQ o j=true):∃e∈o.after,jX .any e=true∧e.on=j:=by
 simp only [yQ,AV,fE,beq_iff_eq] at h
 obtain⟨e,he,h1,h2⟩:=h
 exact⟨e,by simpa using he,h1,h2⟩
def Deps (ol:List aX)(Rs:List (aH→a6→Prop))(w0 w1:a6)(k:Fr→Prop):List Nat→Fr→Prop
 | [],acc=>k acc
 | j::ds,acc=>∀v wj,kG Rs j v wj→Ext w0 wj→Ext wj w1→Deps ol Rs w0 w1 k ds (C7 (eV ol j) v acc)
theorem aJ {Rs:List (aH→a6→Prop)}{w0 w1:a6}{k:Fr→Prop}{acc:Fr}(h:k acc):Deps ol Rs w0 w1 k [] acc:=h
theorem i7 {Rs:List (aH→a6→Prop)}{w0 w1:a6}{k:Fr→Prop}{acc:Fr}{R:aH→a6→Prop}(hR:Rs[j]?=some R)(hd:eV ol j=some d)(h:∀v wj,R v wj→Ext w0 wj→Ext wj w1→Deps ol Rs w0 w1 k ds ((d,v)::acc)):Deps ol Rs w0 w1 k (j::ds) acc:=by
 intro v wj hr e e'
 have e1:kG Rs j=R:=by unfold kG;rw [hR];rfl
 have e2:C7 (eV ol j) v acc=(d,v)::acc:=by rw [hd];rfl
 rw [e1] at hr
 rw [e2]
 exact h v wj hr e e'
def sF (w1:a6)(d:Option Tmp)(R:aH→a6→Prop):dR→Act→a6→Prop
 | .normal,a,w=>Ext w1 w∧R (kP a d) w∧a.defers= []
 | _,_,_=>False
theorem aQ {l:Fr}{w1 w:a6}{R:aH→a6→Prop}(hv:look l d=some v)(hx:Ext w1 w)(hR:R v w):wl P ops (sF w1 (some d) R) n [] l w:=
 aU fun a ha=>⟨hx,by show R (a.tmps.getD d undef) w;rw [ha.val d v hv];exact hR,ha.nod⟩
def wG (w:a6)(v:aH):Prop:=∃g,v= .pointer (some ⟨g,0,none⟩)∧w.heap.size≤g
def NR (w:a6)(v:aH):Prop:=∃g,v= .pointer (some ⟨g,0,none⟩)∧g<w.heap.size
def AD (Rs:List (aH→a6→Prop)):List Nat→Prop
 | []=>True
 | i::r=>(∀v w,kG Rs i v w→NR w v)∧AD Rs r
theorem JD {Rs:List (aH→a6→Prop)}:∀{al:List Nat},AD Rs al→∀i∈al,∀v w,kG Rs i v w→NR w v
 | [],_,i,h=>by cases h
 | j::r,h,i,hi=>by
  rcases uE.1 hi with e | e
  ·subst e;exact h.1
  ·exact JD h.2 i e
def AK (ol:List aX)(al:List Nat)(acc:Fr):Prop:=∀i∈al,∀j∈al,i≠j→∀di dj,eV ol i=some di→eV ol j=some dj→∀u,look acc di=some u→look acc dj=some u→False
section
variable (P:cD) (n:Nat) (ol:List aX) (m:Nat) (fl al:List Nat) (Rs:List (aH→a6→Prop)) (l:Fr) (w0:a6)
def AG (i:Nat)(o:aX)(ds:List Nat):Prop:=
 ∀w1,Ext w0 w1→Deps ol Rs w0 w1 (fun acc=>wl P ol.toArray (sF w1 o.dst (fun v w=>kG Rs i v w∧(al.contains i=true→wG w1 v))) n [o] acc w1) ds l
def AH (i:Nat)(o:aX)(ds:List Nat):Prop:=
 ∀w1,Ext w0 w1→Deps ol Rs w0 w1 (fun acc=>∃v,mC acc o.op=true∧dI ol.toArray acc o.guard=some true∧(∀w,(execOp (rho acc) o).run P w= .ok (.value v) w)∧kG Rs i v w1) ds l
def oE:List (List Nat)→Nat→Prop
 | [],_=>True
 | ds::dss,i=>(match ol[i]? with | some o=>if fl.contains i then AH P ol Rs l w0 i o ds else AG P n ol al Rs l w0 i o ds | none=>True)∧oE dss (i+1)
end
def d9 (rl:List (List Nat))(i:Nat):List Nat:=(rl[i]?).getD []
def zK (n : Nat)(ol : List aX)(m : Nat)(fl : List Nat)(l : Fr)(dss rl : List (List Nat)): Bool :=
  decide (m ≤ ol.length) && dss.length == m && fl.all (fun i => decide (i < m)) &&
  (ol.zipIdx.all fun (o, i) => yI o.op && (o.after.toList.all fun e => !Region.binds .any e || decide (e.on < i)) && ((d9 rl i).all fun j => o.after.toList.any fun e => jX .any e && (e.on == j || (d9 rl e.on).contains j)) &&
    (if i < m then
      (match o.dst with
       | some d => decide (d < n) && l.all (fun p => p.1 != d) && ol.zipIdx.all (fun (o', j) => j == i || decide (m ≤ j) || o'.dst != some d)
       | none => false) &&
      ((dss[i]?).getD []).all (fun j => (d9 rl i).contains j) &&
      (!fl.contains i || ol.zipIdx.all (fun (o', j) => j == i || (d9 rl i).contains j || yQ o' i || o.apart ol.toArray o'))
     else (j3 i).all (fun j => fl.contains j || (d9 rl i).contains j)))
structure DrawOk (n:Nat)(ol:List aX)(m:Nat)(fl:List Nat)(l:Fr)(dss rl:List (List Nat)):Prop where
 mle:m≤ol.length
 dlen:dss.length=m
 flt:∀i∈fl,i<m
 sel:∀(i:Nat) (o:aX),ol[i]?=some o→yI o.op=true
 back:∀(i:Nat) (o:aX),ol[i]?=some o→∀e∈o.after,jX .any e=true→e.on<i
 dst:∀(i:Nat) (o:aX),ol[i]?=some o→i<m→∃d,o.dst=some d∧d<n∧(∀p∈l,p.1≠d)∧∀(j:Nat) (o':aX),ol[j]?=some o'→j≠i→j<m→o'.dst≠some d
 reach:∀(i:Nat) (o:aX),ol[i]?=some o→∀j∈d9 rl i,∃e∈o.after,jX .any e=true∧(e.on=j∨j∈d9 rl e.on)
 deps:∀(i:Nat) (o:aX),ol[i]?=some o→i<m→∀j∈(dss[i]?).getD [],j∈d9 rl i
 free:∀(i:Nat) (o:aX),ol[i]?=some o→i∈fl→∀(j:Nat) (o':aX),ol[j]?=some o'→j≠i→j ∉ d9 rl i→yQ o' i=true∨o.apart ol.toArray o'=true
 tail:∀(i:Nat) (o:aX),ol[i]?=some o→m≤i→∀j,j<i→j∈fl∨j∈d9 rl i
theorem rZ {α:Type}{l:List α}{p:α×Nat→Bool}(h:l.zipIdx.all p=true)(i:Nat)(x:α)(hx:l[i]?=some x):p (x,i)=true:=by
 rw [fU] at h
 exact h (x,i) (by rw [List.mem_zipIdx_iff_getElem?];simpa using hx)
theorem a0n {l:Fr}{rl:List (List Nat)}(h:zK n ol m fl l dss rl=true):DrawOk n ol m fl l dss rl:=by
 simp only [zK,fE,decide_eq_true_eq,beq_iff_eq] at h
 obtain⟨⟨⟨h1,h2⟩,h3⟩,h4⟩:=h
 have key:=fun (i:Nat) (o:aX) (ho:ol[i]?=some o)=>rZ h4 i o ho
 simp only [fE] at key
 refine⟨h1,h2,fun i hi=>by rw [fU] at h3;simpa using h3 i hi,fun i o ho=>(key i o ho).1.1.1,fun i o ho e he hb=>?_,fun i o ho hi=>?_,fun i o ho j hj=>?_,fun i o ho hi j hj=>?_,fun i o ho hi j o' ho' hne hnr=>?_,fun i o ho hi j hj=>?_⟩
 ·have:=(key i o ho).1.1.2
  rw [fU] at this
  have:=this e (by simpa using he)
  simpa [hb] using this
 ·have:=(key i o ho).2
  rw [if_pos hi] at this
  simp only [fE] at this
  obtain⟨⟨h5,_⟩,_⟩:=this
  cases hd:o.dst with
  | none=>rw [hd] at h5;cases h5
  | some d=>
   rw [hd] at h5
   simp only [fE,decide_eq_true_eq] at h5
   obtain⟨⟨h6,h7⟩,h8⟩:=h5
   refine⟨d,rfl,h6,fun p hp=>?_,fun j o' ho' hne hjm e=>?_⟩
   ·rw [fU] at h7
    simpa using h7 p hp
   ·have:=rZ h8 j o' ho'
    simp only [nK,beq_iff_eq,decide_eq_true_eq,bne_iff_ne] at this
    rcases this with (h | h) | h
    ·exact hne h
    ·omega
    ·exact h e
 ·have h5:=(key i o ho).1.2
  rw [fU] at h5
  have:=h5 j hj
  rw [AV] at this
  obtain⟨e,he,h6⟩:=this
  simp only [fE,nK,beq_iff_eq,nJ] at h6
  exact⟨e,by simpa using he,h6.1,h6.2⟩
 ·have:=(key i o ho).2
  rw [if_pos hi] at this
  simp only [fE] at this
  have h5:=this.1.2
  rw [fU] at h5
  simpa using h5 j hj
 ·have him:i<m:=by rw [fU] at h3;simpa using h3 i hi
  have:=(key i o ho).2
  rw [if_pos him] at this
  simp only [fE,nK,Bool.not_eq_true'] at this
  rcases this.2 with h5 | h5
  ·simp [hi] at h5
  ·have:=rZ h5 j o' ho'
   simp only [nK,beq_iff_eq,nJ] at this
   rcases this with ((h | h) | h) | h
   ·exact absurd h hne
   ·exact absurd h hnr
   ·exact cE h
   ·exact bR h
 ·have:=(key i o ho).2
  rw [if_neg (by omega),fU] at this
  have:=this j (by simpa using hj)
  simpa using this
section
variable {P:cD}{Q:dR→Act→a6→Prop}{n:Nat}{ol:List aX}{m:Nat}{fl al:List Nat}{Rs:List (aH→a6→Prop)}{l:Fr}{w0:a6}{dss rl:List (List Nat)}
def wH (ol:List aX)(Rs:List (aH→a6→Prop))(w0:a6)(i:Nat)(a:Act)(w:a6):Prop:=∃w1,Ext w0 w1∧Ext w1 w∧kG Rs i (kP a (eV ol i)) w1
theorem Deps.weak {w1:a6}{k k':Fr→Prop}(hi:∀acc,k acc→k' acc):∀(ds:List Nat) (acc:Fr),Deps ol Rs w0 w1 k ds acc→Deps ol Rs w0 w1 k' ds acc
 | [],acc,h=>hi acc h
 | _::ds,_,h=>fun v wj h1 h2 h3=>Deps.weak hi ds _ (h v wj h1 h2 h3)
theorem Rp.cons {acc:Fr}(h:Rp n acc a)(hv:a.tmps.getD d undef=v):Rp n ((d,v)::acc) a:=
 ⟨h.size,h.nod,fun i u hi=>by
  simp only [look] at hi
  cases hb:pR d i with
  | true=>
   rw [hb] at hi
   have e:=sL hb
   subst e
   cases hi
   exact hv
  | false=>rw [hb] at hi;exact h.val i u hi⟩
theorem Deps.apply {w1:a6}{k:Fr→Prop}{a:Act}:∀(ds:List Nat) (acc:Fr),(∀j∈ds,wH ol Rs w0 j a w1)→Deps ol Rs w0 w1 k ds acc→Rp n acc a→∃acc',Rp n acc' a∧k acc'
 | [],acc,_,h,hr=>⟨acc,hr,h⟩
 | j::ds,acc,hf,h,hr=>by
  obtain⟨wj,e1,e2,hR⟩:=hf j (by simp)
  refine Deps.apply ds _ (fun i hi=>hf i (by simp [hi])) (h _ wj hR e1 e2) ?_
  cases hd:eV ol j with
  | none=>exact hr
  | some d=>exact hr.cons rfl
theorem CC:∀{dss:List (List Nat)}{k:Nat},oE P n ol fl al Rs l w0 dss k→∀(i:Nat) (o:aX),ol[k+i]?=some o→i<dss.length→
  (if fl.contains (k+i) then AH P ol Rs l w0 (k+i) o ((dss[i]?).getD []) else AG P n ol al Rs l w0 (k+i) o ((dss[i]?).getD []))
 | [],_,_,i,_,_,hi=>by simp at hi
 | ds::dss,k,h,0,o,ho,_=>by
  have:=h.1
  rw [show ol[k]?=some o from ho] at this
  simpa using this
 | ds::dss,k,h,i+1,o,ho,hi=>by
  have e:k+(i+1)=k+1+i:=by omega
  have:=CC h.2 i o (by rw [←e];exact ho) (by simpa using hi)
  rw [e]
  simpa using this
theorem F2 {w:a6}{K K2:Act→a6→Prop}{Q1 Q2:dR→Act→a6→Prop}(h:o.wp P a w K Q1)(hp:∀c a w,¬Q1 (.panic c) a w)(hl:¬LetsOut Q1)(hd:∀a w,K a w→a.defers= [])(hk:∀v w',K (a.put o.dst v) w'→K2 (a.put o.dst v) w'):o.wp P a w K2 Q2:=by
 unfold nF at*
 generalize (execOp a.eval o).run P w=r at*
 cases r with
 | ok x w'=>
  cases x <;> simp only [oG] at h⊢ <;> first | exact h.elim | skip
  case value v=>exact hk _ _ h
  case skip=>exact hk _ _ h
  case defer d=>
   have:=hd _ _ h
   exfalso
   revert this
   cases o.dst <;> simp [oM]
  case enter f args=>
   refine h.mono fun e w'' he=>?_
   cases e with
   | returned v=>exact hk _ _ he
   | panicked c=>exact (hp _ _ _ he).elim
   | outgrown=>exact (hl he).elim
  case row row args=>exact h.mono fun v w'' he=>hk _ _ he
 | halt x w'=>
  cases x <;> simp only [oG] at h⊢ <;> first | exact h.elim | exact (hp _ _ _ h).elim
theorem pK (ol:List aX)(i:Nat):ol.toArray[i]?=ol[i]?:=by simp
theorem lC:j∈sG .any ol.toArray listed↔
  listed.getD j true=false∧∃o,ol[j]?=some o∧∀e∈o.after,jX .any e=true→listed.getD e.on false=true:=by
 rw [mem_ready,pK]
theorem lE (h:j<listed.size:=by omega):listed.getD j true=listed.getD j false:=by simp [h]
theorem VY (h:DrawOk n ol m fl l dss rl)(j:Nat)(o:aX)(cs:Array SelectCase)(b:Bool)(ho:ol.toArray[j]?=some o):o.op≠ .select cs b:=by
 intro e
 have:=h.sel j o (by rw [←pK];exact ho)
 rw [e] at this
 cases this
def sQ (N:Nat)(listed:Array Bool):Nat:=(j3 N).countP fun i=> !listed.getD i false
theorem MF {p q:Nat→Bool}{i:Nat}:∀{L:List Nat},i∈L→(∀j,q j=true→p j=true)→p i=true→q i=false→L.countP q<L.countP p
 | [],h,_,_,_=>by cases h
 | j::L,h,hpq,hp,hq=>by
  have hle:L.countP q≤L.countP p:=List.countP_mono_left fun j _=>hpq j
  by_cases e:i=j
  ·subst e
   rw [AU,AU,hp,hq]
   simp;omega
  ·have hi:i∈L:=by
    rcases uE.1 h with h | h
    ·exact absurd h e
    ·exact h
   have:=MF hi hpq hp hq
   rw [AU,AU]
   cases hqj:q j with
   | true=>rw [hpq j hqj];simp;omega
   | false=>simp only [Bool.false_eq_true,if_false];omega
theorem m6 (hi:i<N)(hs:listed.size=N)(h:listed.getD i false=false):sQ N (listed.setIfInBounds i true)<sQ N listed:=by
 refine MF (i:=i) (jJ.2 hi) (fun j hj=>?_) (by simp only [h];rfl) ?_
 ·by_cases e:i=j
  ·subst e;simp [hs,hi] at hj
  ·rw [getD_set_ne false e] at hj;exact hj
 ·simp [hs,hi]
def Closed (ol:List aX)(listed:Array Bool):Prop:=∀(i:Nat) (o:aX),ol[i]?=some o→listed.getD i false=true→∀e∈o.after,jX .any e=true→listed.getD e.on false=true
theorem Closed.set (h:Closed ol listed)(ho:ol[i]?=some o)(hall:∀e∈o.after,jX .any e=true→listed.getD e.on false=true):Closed ol (listed.setIfInBounds i true):=by
 intro k ok hok hl e he hb
 refine getD_set_true ?_
 by_cases hik:i=k
 ·subst hik
  rw [ho] at hok
  cases hok
  exact hall e he hb
 ·rw [getD_set_ne false hik] at hl
  exact h k ok hok hl e he hb
theorem Closed.reach (h:Closed ol listed)(hk:DrawOk n ol m fl l dss rl):∀(i:Nat) (o:aX),ol[i]?=some o→(∀e∈o.after,jX .any e=true→listed.getD e.on false=true)→∀j∈d9 rl i,listed.getD j false=true:=by
 intro i
 induction i using sH with
 | ind i ih=>
  intro o ho hall j hj
  obtain⟨e,he,hb,h1⟩:=hk.reach i o ho j hj
  have hlt:=hk.back i o ho e he hb
  rcases h1 with h1 | h1
  ·rw [←h1];exact hall e he hb
  ·have hN:e.on<ol.length:=Nat.lt_trans hlt (iO.1 ho).1
   exact ih e.on hlt _ (cJ hN) (h e.on _ (cJ hN) (hall e he hb)) j h1
theorem G3 (hk:DrawOk n ol m fl l dss rl):∀(fuel k:Nat) (listed:Array Bool) (a:Act) (w:a6),m≤k→k≤ol.length→sQ ol.length listed≤fuel→listed.size=ol.length→Closed ol listed→(∀i,i<ol.length→listed.getD i false=decide (i<k))→
  wpList P ol.toArray Q (ol.drop k) a w→wpAny P .any ol.toArray Q fuel listed a w:=by
 intro fuel
 induction fuel with
 | zero=>
  intro k listed a w hm hkl hf hs _ hl h
  have e:k=ol.length:=by
   rcases jR k ol.length with h1 | h1
   ·have h2:listed.getD k false=false:=by rw [hl k h1];simp
    have:=m6 h1 hs h2;omega
   ·omega
  subst e
  rw [List.drop_length] at h
  refine wpAny_done ?_ h 0
  refine AQ.2 fun j hj=>?_
  obtain⟨h1,o,ho,_⟩:=lC.1 hj
  have hjl:j<ol.length:=(iO.1 ho).1
  rw [lE,hl j hjl] at h1
  simp [hjl] at h1
 | succ fuel ih=>
  intro k listed a w hm hkl hf hs hcl hl h
  rcases jR k ol.length with hlt | hge
  ·obtain⟨o,ho⟩:∃o,ol[k]?=some o:=⟨_,cJ hlt⟩
   have hrdy:k∈sG .any ol.toArray listed:=by
    refine lC.2 ⟨?_,o,ho,fun e he hb=>?_⟩
    ·rw [lE,hl k hlt];simp
    ·have:=hk.back k o ho e he hb
     rw [hl e.on (by omega)];simpa using this
   refine⟨fun h0=>(by rw [h0] at hrdy;cases hrdy),fun i hi=>?_⟩
   obtain⟨h1,o',ho',hall⟩:=lC.1 hi
   have hil:i<ol.length:=(iO.1 ho').1
   rw [lE,hl i hil] at h1
   have hik:k≤i:=by simpa using h1
   have hie:i=k:=by
    rcases jR k i with h2 | h2
    ·rcases hk.tail i o' ho' (by omega) k h2 with h3 | h3
     ·have:=hk.flt k h3;omega
     ·have:=hcl.reach hk i o' ho' hall k h3
      rw [hl k hlt] at this
      simp at this
    ·omega
   subst hie
   have hd:ol.drop i=o::ol.drop (i+1):=by
    rw [m4 hlt]
    congr 1
    rw [cJ hlt] at ho
    exact l4 ho
   rw [hd] at h
   have hw:wpOp P ol.toArray Q i (wpList P ol.toArray Q (ol.drop (i+1))) a w:=by
    unfold wpOp
    rw [pK,ho]
    unfold wpList at h
    exact h
   refine wpOp_mono (fun a' w' h'=>?_) hw
   refine ih (i+1) _ a' w' (by omega) (by omega) (by have:=m6 hil hs (by rw [hl i hil];simp);omega) (by simpa using hs) (hcl.set ho (by rw [ho] at ho';cases ho';exact hall)) (fun j hj=>?_) h'
   by_cases hij:i=j
   ·subst hij
    simp [hs,hil]
   ·rw [getD_set_ne false hij,hl j hj]
    congr 1
    simp only [eq_iff_iff]
    omega
  ·have e:k=ol.length:=by omega
   subst e
   rw [List.drop_length] at h
   refine wpAny_done ?_ h _
   refine AQ.2 fun j hj=>?_
   obtain⟨h1,o,ho,_⟩:=lC.1 hj
   have hjl:j<ol.length:=(iO.1 ho).1
   rw [lE,hl j hjl] at h1
   simp [hjl] at h1
theorem Rp.put_far (h:Rp n l a)(hd:∀p∈l,p.1≠d)(v:aH):Rp n l (a.put (some d) v):=by
 refine⟨by simp [oM,h.size],by simp [oM,h.nod],fun i u hi=>?_⟩
 have hne:d≠i:=fun e=>by
  have key:∀(l:Fr),look l i=some u→∃p∈l,p.1=i:=by
   intro l
   induction l with
   | nil=>intro h;cases h
   | cons p r ih=>
    intro h
    obtain⟨j,x⟩:=p
    simp only [look] at h
    cases hb:pR j i with
    | true=>exact⟨(j,x),by simp,sL hb⟩
    | false=>
     rw [hb] at h
     obtain⟨p,hp,he⟩:=ih h
     exact⟨p,by simp [hp],he⟩
  obtain⟨p,hp,he⟩:=key l hi
  exact hd p hp (he.trans e.symm)
 have:=h.val i u hi
 simp only [oM,rD] at this⊢
 rwa [EM hne]
theorem uQ (hs:a.tmps.size=n)(hd:d<n)(v:aH):kP (a.put (some d) v) (some d)=v:=by
 simp [kP,oM,hs,hd]
theorem xL {e:Option Tmp}(h:e≠some d)(v:aH):kP (a.put (some d) v) e=kP a e:=by
 cases e with
 | none=>rfl
 | some e=>
  have hne:d≠e:=fun he=>h (by rw [he])
  simp only [kP,oM,rD]
  rw [EM hne]
theorem GB (hk:DrawOk n ol m fl l dss rl){w w':a6}(ho:ol[i]?=some o)(him:i<m)(hm:∀i,m≤i→i<ol.length→listed.getD i false=false)(hr:Rp n l a)(hfact:∀i,i<ol.length→listed.getD i false=true→wH ol Rs w0 i a w)(hx:Ext w0 w)(e:Ext w w')(hR:kG Rs i v w'):
  Rp n l (a.put o.dst v)∧∀j,j<ol.length→(listed.setIfInBounds i true).getD j false=true→wH ol Rs w0 j (a.put o.dst v) w':=by
 obtain⟨d,hd,hdn,hfar,hother⟩:=hk.dst i o ho him
 rw [hd]
 refine⟨hr.put_far hfar v,fun j hj hlj=>?_⟩
 by_cases hij:i=j
 ·subst hij
  refine⟨w',hx.trans e,Ext.refl _,?_⟩
  have e1:eV ol i=some d:=by unfold eV;rw [ho];exact hd
  rw [e1,uQ hr.size hdn]
  exact hR
 ·rw [getD_set_ne false hij] at hlj
  have hjm:j<m:=by
   rcases jR j m with h | h
   ·exact h
   ·rw [hm j h hj] at hlj;cases hlj
  obtain⟨w1,e1,e2,h1⟩:=hfact j hj hlj
  refine⟨w1,e1,e2.trans e,?_⟩
  rw [xL]
  ·exact h1
  ·obtain⟨oj,hoj⟩:∃oj,ol[j]?=some oj:=⟨_,cJ hj⟩
   unfold eV
   rw [hoj]
   exact hother j oj hoj (uB hij) hjm
theorem sV (hk:DrawOk n ol m fl l dss rl)(hoi:ol[i]?=some o)(him:i<m)(v:aH)(hne:i≠j)(hjm:j<m):kP (a.put o.dst v) (eV ol j)=kP a (eV ol j):=by
 obtain⟨d,hd,_,_,hoth⟩:=hk.dst i o hoi him
 rw [hd]
 refine xL ?_ v
 unfold eV
 obtain⟨oj,hoj⟩:∃oj,ol[j]?=some oj:=⟨_,cJ (by have:=hk.mle;omega)⟩
 rw [hoj]
 exact hoth j oj hoj (uB hne) hjm
theorem LV {acc:Fr}(_hal:∀i∈al,i<m∧i ∉ fl)(hacc:Rp n acc a)(hdi:∀i∈al,∀j∈al,i≠j→listed.getD i false=true→listed.getD j false=true→kP a (eV ol i)≠kP a (eV ol j))(hl:∀i∈al,listed.getD i false=true):AK ol al acc:=by
 intro i hi j hj hne di dj hdi' hdj' u h1 h2
 refine hdi i hi j hj hne (hl i hi) (hl j hj) ?_
 rw [hdi',hdj']
 show a.tmps.getD di undef=a.tmps.getD dj undef
 rw [hacc.val di u h1,hacc.val dj u h2]
theorem Y2 (hk : DrawOk n ol m fl l dss rl)(hal : ∀ i ∈ al, i < m ∧ i ∉ fl)(hold : AD Rs al)(ho : oE P n ol fl al Rs l w0 dss 0)(hfin : ∀ w1, Ext w0 w1 → Deps ol Rs w0 w1 (fun acc => AK ol al acc → wl P ol.toArray (NP Q) n (ol.drop m) acc w1) (j3 m) l):
    ∀ (fuel : Nat) (listed : Array Bool) (a : Act) (w : a6), sQ ol.length listed ≤ fuel → listed.size = ol.length → Closed ol listed → (∀ i, m ≤ i → i < ol.length → listed.getD i false = false) → Rp n l a → Ext w0 w →
      (∀ i, i < ol.length → listed.getD i false = true → wH ol Rs w0 i a w) → (∀ i ∈ al, ∀ j ∈ al, i ≠ j → listed.getD i false = true → listed.getD j false = true → kP a (eV ol i) ≠ kP a (eV ol j)) → wpAny P .any ol.toArray (NP Q) fuel listed a w := by
  intro fuel
  induction fuel with
  | zero =>
    intro listed a w hf hs hcl hm hr hx hfact hdi
    have hall : ∀ i, i < ol.length → listed.getD i false = true := by
      intro i hi
      cases h : listed.getD i false with
      | true => rfl
      | false => have := m6 hi hs h; omega
    have hml : m = ol.length := by
      rcases jR m ol.length with h | h
      · have h1 := hm m (b8 _) h
        rw [hall m h] at h1; cases h1
      · have := hk.mle; omega
    obtain ⟨acc, hacc, hwl⟩ := Deps.apply (n := n) (j3 m) l (fun j hj => hfact j (by have := jJ.1 hj; omega) (hall j (by have := jJ.1 hj; omega))) (hfin w hx) hr
    exact G3 hk 0 m listed a w (b8 _) (by omega) hf hs hcl (fun i hi => by rw [hall i hi]; simp; omega) (hwl (LV hal hacc hdi (fun i hi => hall i (by have := (hal i hi).1; omega))) a hacc)
  | succ fuel ih =>
    intro listed a w hf hs hcl hm hr hx hfact hdi
    by_cases hdone : ∀ i, i < m → listed.getD i false = true
    · obtain ⟨acc, hacc, hwl⟩ := Deps.apply (n := n) (j3 m) l (fun j hj => hfact j (by have := jJ.1 hj; have := hk.mle; omega) (hdone j (jJ.1 hj))) (hfin w hx) hr
      exact G3 hk (fuel + 1) m listed a w (b8 _) hk.mle hf hs hcl (fun i hi => by
        rcases jR i m with h | h
        · rw [hdone i h]; simpa using h
        · rw [hm i h hi]; simp; omega) (hwl (LV hal hacc hdi (fun i hi => hdone i (hal i hi).1)) a hacc)
    · -- the least that is not listed
      obtain ⟨j, hjm, hjl, hleast⟩ : ∃ j, j < m ∧ listed.getD j false = false ∧ ∀ i, i < j → listed.getD i false = true := by
        have key : ∀ k, (∃ j, j < m ∧ j < k ∧ listed.getD j false = false) → ∃ j, j < m ∧ listed.getD j false = false ∧ ∀ i, i < j → listed.getD i false = true := by
          intro k
          induction k with
          | zero => rintro ⟨j, _, h, _⟩; omega
          | succ k ihk =>
            rintro ⟨j, h1, h2, h3⟩
            by_cases hs' : ∃ j, j < m ∧ j < k ∧ listed.getD j false = false
            · exact ihk hs'
            · refine ⟨j, h1, h3, fun i hi => ?_⟩
              cases hb : listed.getD i false with
              | true => rfl
              | false => exact absurd ⟨i, by omega, by omega, hb⟩ hs'
        refine key m (EL fun hno => hdone fun i hi => ?_)
        cases hb : listed.getD i false with
        | true => rfl
        | false => exact absurd ⟨i, hi, hi, hb⟩ hno
      have hml := hk.mle
      obtain ⟨oj, hoj⟩ : ∃ oj, ol[j]? = some oj := ⟨_, cJ (by omega)⟩
      have hjr : j ∈ sG .any ol.toArray listed := lC.2 ⟨by rw [lE]; exact hjl, oj, hoj, fun e he hb => hleast _ (hk.back j oj hoj e he hb)⟩
      have facts_of : ∀ (i : Nat) (o : aX), ol[i]? = some o → i < m → i ∈ sG .any ol.toArray listed → ∀ k ∈ (dss[i]?).getD [], wH ol Rs w0 k a w := by
        intro i o hoi him hir k hkd
        have h1 := hk.deps i o hoi him k hkd
        obtain ⟨_, o', ho', hall⟩ := lC.1 hir
        rw [hoi] at ho'
        cases ho'
        have h2 := hcl.reach hk i o hoi hall k h1
        have h3 : k < listed.size := by
          rcases jR k listed.size with h' | h'
          · exact h'
          · simp [Array.getElem?_eq_none h'] at h2
        exact hfact k (by omega) h2
      by_cases hfl : ∃ i ∈ fl, i ∈ sG .any ol.toArray listed
      · obtain ⟨i, hif, hir⟩ := hfl
        have him := hk.flt i hif
        obtain ⟨hun, o, hoi, hall⟩ := lC.1 hir
        have aK := CC (k := 0) ho i o (by simpa using hoi) (by rw [hk.dlen]; exact him)
        rw [f9, if_pos (by simpa using hif)] at aK
        obtain ⟨acc, hacc, v, hkn, hgd, hrun, hR⟩ := Deps.apply (n := n) _ l (facts_of i o hoi him hir) (aK w hx) hr
        have hy : Yields P ol.toArray o v a := cE ⟨by obtain ⟨d, op, ty, pos, af, gd⟩ := o; exact BB hgd hacc, fun w => by
          obtain ⟨d, op, ty, pos, af, gd⟩ := o
          rw [vV hkn hacc]; exact hrun w⟩
        have hun' : listed.getD i false = false := by rw [← lE]; exact hun
        obtain ⟨h1, h2⟩ := GB hk hoi him hm hr hfact hx (Ext.refl w) hR
        refine wpAny_first (by rw [pK]; exact hoi) (VY hk) (fun c a w h => h.elim) fuel listed a w (fun k ok hok hki hkun hno => ?_) hir hy ?_
        · have hnr : k ∉ d9 rl i := fun hm => by
            have h1 := hcl.reach hk i o hoi hall k hm
            have h2 : k < ol.length := (iO.1 (show ol[k]? = some ok by rw [← pK]; exact hok)).1
            rw [lE, h1] at hkun; cases hkun
          rcases hk.free i o hoi hif k ok (by rw [← pK]; exact hok) hki hnr with h | h
          · obtain ⟨e, he, hb, heq⟩ := Y3 h
            exact absurd heq (hno e he hb)
          · exact h
        · refine ih _ _ w (by have := m6 (by omega) hs hun'; omega) (by simpa using hs) (hcl.set hoi hall) (fun k hmk hk' => ?_) h1 hx h2 (fun i' hi' j' hj' hne hli hlj => ?_)
          · rw [getD_set_ne false (by omega)]; exact hm k hmk hk'
          · have e1 : i ≠ i' := fun e => (hal i' hi').2 (e ▸ hif)
            have e2 : i ≠ j' := fun e => (hal j' hj').2 (e ▸ hif)
            rw [getD_set_ne false e1] at hli
            rw [getD_set_ne false e2] at hlj
            rw [sV hk hoi him v e1 (hal i' hi').1, sV hk hoi him v e2 (hal j' hj').1]
            exact hdi i' hi' j' hj' hne hli hlj
      · have hjf : j ∉ fl := fun h => hfl ⟨j, h, hjr⟩
        refine ⟨fun h0 => (by rw [h0] at hjr; cases hjr), fun i hir => ?_⟩
        obtain ⟨hun, o, hoi, hall⟩ := lC.1 hir
        have hil : i < ol.length := (iO.1 hoi).1
        have him : i < m := by
          rcases jR i m with h | h
          · exact h
          · rcases hk.tail i o hoi h j (by omega) with h1 | h1
            · exact absurd h1 hjf
            · have := hcl.reach hk i o hoi hall j h1
              rw [hjl] at this; cases this
        have hif : i ∉ fl := fun h => hfl ⟨i, h, hir⟩
        have hun' : listed.getD i false = false := by rw [← lE]; exact hun
        have aK := CC (k := 0) ho i o (by simpa using hoi) (by rw [hk.dlen]; exact him)
        rw [f9, if_neg (by simpa using hif)] at aK
        obtain ⟨acc, hacc, hwl⟩ := Deps.apply (n := n) _ l (facts_of i o hoi him hir) (aK w hx) hr
        have hl := hwl a hacc
        have next : ∀ v w', sF w o.dst (fun v w' => kG Rs i v w' ∧ (al.contains i = true → wG w v)) .normal (a.put o.dst v) w' → wpAny P .any ol.toArray (NP Q) fuel (listed.setIfInBounds i true) (a.put o.dst v) w' := by
          intro v w' hpi
          obtain ⟨e, hR, _⟩ := hpi
          have hv : kG Rs i v w' ∧ (al.contains i = true → wG w v) := by
            obtain ⟨d, hd, hdn, _⟩ := hk.dst i o hoi him
            rw [hd, uQ hr.size hdn] at hR
            exact hR
          obtain ⟨h1, h2⟩ := GB hk hoi him hm hr hfact hx e hv.1
          have hself : kP (a.put o.dst v) (eV ol i) = v := by
            obtain ⟨d, hd, hdn, _⟩ := hk.dst i o hoi him
            have e1 : eV ol i = some d := by unfold eV; rw [hoi]; exact hd
            rw [e1, hd, uQ hr.size hdn]
          have fresh : ∀ j ∈ al, j ≠ i → listed.getD j false = true → al.contains i = true → kP a (eV ol j) ≠ v := by
            intro j hj hji hlj hci heq
            obtain ⟨wj, _, f2, hRj⟩ := hfact j (by have := (hal j hj).1; omega) hlj
            obtain ⟨g, hg, hlt⟩ := JD hold j hj _ _ hRj
            obtain ⟨g', hg', hge⟩ := hv.2 hci
            rw [heq, hg'] at hg
            injection hg with hg
            injection hg with hg
            injection hg with hg
            have := f2.size
            omega
          refine ih _ _ w' (by have := m6 hil hs hun'; omega) (by simpa using hs) (hcl.set hoi hall) (fun k hmk hk' => ?_) h1 (hx.trans e) h2 (fun i' hi' j' hj' hne hli hlj => ?_)
          · rw [getD_set_ne false (by omega)]; exact hm k hmk hk'
          · by_cases e1 : i = i'
            · subst e1
              rw [getD_set_ne false hne] at hlj
              rw [hself, sV hk hoi him v hne (hal j' hj').1]
              exact fun h => fresh j' hj' (uB hne) hlj (by simpa using hi') h.symm
            · rw [getD_set_ne false e1] at hli
              by_cases e2 : i = j'
              · subst e2
                rw [hself, sV hk hoi him v e1 (hal i' hi').1]
                exact fresh i' hi' (uB e1) hli (by simpa using hj')
              · rw [getD_set_ne false e2] at hlj
                rw [sV hk hoi him v e1 (hal i' hi').1, sV hk hoi him v e2 (hal j' hj').1]
                exact hdi i' hi' j' hj' hne hli hlj
        have nolets : ¬ LetsOut (sF w o.dst (fun v w' => kG Rs i v w' ∧ (al.contains i = true → wG w v))) := fun ⟨_, _, h⟩ => h
        unfold wpOp
        rw [pK, hoi]
        unfold wpList at hl
        simp only at hl ⊢
        split at hl
        · rename_i hw
          rw [if_pos hw]
          rcases hl with hl | hl
          · exact cE (F2 hl (fun _ _ _ h => h) nolets (fun a w h => h.2.2) (fun v w' h => next v w' h))
          · exact absurd hl.2 nolets
        · rename_i hw
          rw [if_neg hw]
          exact next _ _ hl
theorem a0I (hmix:P.follows .mixedOrders=true)(m:Nat)(fl al:List Nat)(Rs:List (aH→a6→Prop))(dss:List (List Nat)){w:a6}(rl:List (List Nat))(hk:zK n ol m fl l dss rl=true)(hal:al.all (fun i=>decide (i<m)&& !fl.contains i)=true)(hold:AD Rs al)(ho:oE P n ol fl al Rs l w dss 0)(hfin:∀w1,Ext w w1→Deps ol Rs w w1 (fun acc=>AK ol al acc→wl P ol.toArray (NP Q) n (ol.drop m) acc w1) (j3 m) l):cw P Q n (.region id ol.toArray true) l w:=fun a ha=>by
 refine EJ NP.imp (wp_region_any hmix ?_)
 have hsz:(uJ ol.toArray.size false).size=ol.length:=by simp
 have hfalse:∀i,(uJ ol.toArray.size false).getD i false=false:=by
  intro i
  simp only [rD,EN]
  split <;> rfl
 have hal':∀i∈al,i<m∧i ∉ fl:=by
  intro i hi
  rw [fU] at hal
  simpa using hal i hi
 refine Y2 (a0n hk) hal' hold ho hfin ol.toArray.size _ a _ ?_ hsz (fun i o ho h=>by rw [hfalse i] at h;cases h) (fun i _ hi=>hfalse i) ha (Ext.refl w).drew (fun i hi h=>by rw [hfalse i] at h;cases h) (fun i _ j _ _ h=>by rw [hfalse i] at h;cases h)
 refine aG EI ?_
 simp
theorem gR (hmix:P.follows .mixedOrders=true)(m:Nat)(fl:List Nat)(Rs:List (aH→a6→Prop))(dss:List (List Nat)){w:a6}(rl:List (List Nat))(hk:zK n ol m fl l dss rl=true)(ho:oE P n ol fl [] Rs l w dss 0)(hfin:∀w1,Ext w w1→Deps ol Rs w w1 (fun acc=>wl P ol.toArray (NP Q) n (ol.drop m) acc w1) (j3 m) l):cw P Q n (.region id ol.toArray true) l w:=
 a0I hmix m fl [] Rs dss rl hk rfl trivial ho (fun w1 h=>Deps.weak (k:=fun acc=>wl P ol.toArray (NP Q) n (ol.drop m) acc w1) (k':=fun acc=>AK ol [] acc→wl P ol.toArray (NP Q) n (ol.drop m) acc w1) (fun _ h1 _=>h1) _ _ (hfin w1 h))
theorem gP {w:a6}:oE P n ol fl al Rs l w [] k:=trivial
theorem aR {w:a6}(ho:ol[k]?=some o)(hf:fl.contains k=false)(h:AG P n ol al Rs l w k o ds)(h':oE P n ol fl al Rs l w dss (k+1)):oE P n ol fl al Rs l w (ds::dss) k:=
 ⟨by rw [ho];simp only;rw [hf];exact h,h'⟩
theorem lO {w:a6}(ho:ol[k]?=some o)(hf:fl.contains k=true)(h:AH P ol Rs l w k o ds)(h':oE P n ol fl al Rs l w dss (k+1)):oE P n ol fl al Rs l w (ds::dss) k:=
 ⟨by rw [ho];simp only;rw [hf];exact h,h'⟩
theorem aK {w:a6}{R:aH→a6→Prop}(hR:Rs[k]?=some R)(hn:al.contains k=false)(h:∀w1,Ext w w1→Deps ol Rs w w1 (fun acc=>wl P ol.toArray (sF w1 o.dst R) n [o] acc w1) ds l):AG P n ol al Rs l w k o ds:=by
 have e:kG Rs k=R:=by unfold kG;rw [hR];rfl
 intro w1 hw
 rw [e]
 refine Deps.weak (fun acc h1 a ha=>?_) _ _ (h w1 hw)
 have h2:=h1 a ha
 unfold wpList at h2⊢
 have imp:∀a' w',sF w1 o.dst R .normal a' w'→sF w1 o.dst (fun v w=>R v w∧(al.contains k=true→wG w1 v)) .normal a' w':=fun a' w' h3=>⟨h3.1,⟨h3.2.1,fun hc=>by rw [hn] at hc;cases hc⟩,h3.2.2⟩
 split at h2
 ·rename_i hwant
  rw [if_pos hwant]
  rcases h2 with h2 | h2
  ·exact cE (F2 h2 (fun _ _ _ h=>h) (fun⟨_,_,h⟩=>h) (fun a w h=>h.2.2) (fun v w' h=>imp _ _ h))
  ·exact absurd h2.2 (fun⟨_,_,h⟩=>h)
 ·rename_i hwant
  rw [if_neg hwant]
  exact imp _ _ h2
theorem lP {w:a6}{R:aH→a6→Prop}(hR:Rs[k]?=some R)(h:∀w1,Ext w w1→Deps ol Rs w w1 (fun acc=>∃v,mC acc o.op=true∧dI ol.toArray acc o.guard=some true∧(∀w,(execOp (rho acc) o).run P w= .ok (.value v) w)∧R v w1) ds l):AH P ol Rs l w k o ds:=by
 have e:kG Rs k=R:=by unfold kG;rw [hR];rfl
 intro w1 hw
 rw [e]
 exact h w1 hw
end
def iT (P:cD)(n:Nat)(l:Fr)(o:aX)(w:a6)(x:fH)(w':a6):Prop:=∀a,Rp n l a→(execOp a.eval o).run P w= .ok x w'
section
variable {P:cD}{n:Nat}{l:Fr}{w:a6}{d:Nat}{op:Op}{ty:aT}{pos:String}{af:Array Edge}{gd:Option (Nat×Bool)}
theorem qC (hk:mC l op=true)(hr:(execOp (rho l) ⟨dst,op,ty,pos,af,gd⟩).run P w= .ok (.value v) w:=by kernel_rfl):iT P n l ⟨dst,op,ty,pos,af,gd⟩ w (.value v) w:=fun a ha=>by rw [vV hk ha];exact hr
theorem gW {x:cS}(hx:bZ l x=some (.pointer (some p)))(hl:(loadVar t p).run P w= .ok v w):iT P n l ⟨dst,.load t x,ty,pos,af,gd⟩ w (.value v) w:=fun a ha=>by
 have e:(AY t (a.eval x)).run P w= .ok v w:=by rw [ha.ev hx];exact hl
 show ((AY t (a.eval x)>>=fun r=>pure (fZ r):Sem fH)).run P w=_
 rw [cK,e];rfl
theorem y9 {x y:cS}{w':a6}(hx:bZ l x=some (.pointer (some p)))(hy:bZ l y=some v)(hs:(storeVar t p v).run P w= .ok () w'):iT P n l ⟨dst,.store t x y,ty,pos,af,gd⟩ w .skip w':=fun a ha=>by
 have e:(AX t (a.eval x) (a.eval y)).run P w= .ok () w':=by rw [ha.ev hx,ha.ev hy];exact hs
 show ((AX t (a.eval x) (a.eval y)>>=fun _=>pure Next.skip:Sem fH)).run P w=_
 rw [cK,e];rfl
theorem yA {x:cS}(hx:bZ l x=some v):iT P n l ⟨dst,.assign x,ty,pos,af,gd⟩ w (.value v) w:=fun a ha=>by simp only [execOp,ha.ev hx];rfl
theorem dO {x:cS}(hx:bZ l x=some v):iT P n l ⟨dst,.move x,ty,pos,af,gd⟩ w (.value v) w:=fun a ha=>by simp only [execOp,ha.ev hx];rfl
end
def dfr (ol:List aX)(vs:List aH)(l:Fr):List Nat→Fr
 | []=>l
 | j::ds=>C7 (eV ol j) ((vs[j]?).getD undef) (dfr ol vs l ds)
def wv (ws:List a6)(w:a6)(t:Nat):a6:=(ws[t]?).getD w
section
variable (P:cD) (n:Nat) (ol:List aX) (vs:List aH) (ws:List a6) (w:a6) (dss:List (List Nat)) (l:Fr) (st:List Nat)
def wI (i t:Nat):Prop:=
 match ol[i]? with
 | some o=>if st.contains i then iT P n (dfr ol vs l (d9 dss i)) o (wv ws w t) .skip (wv ws w (t+1)) else iT P n (dfr ol vs l (d9 dss i)) o (wv ws w t) (.value ((vs[i]?).getD undef)) (wv ws w t)
 | none=>True
def pO:List (Nat×Nat)→Prop
 | []=>True
 | (i,t)::r=>wI P n ol vs ws w dss l st i t∧pO r
def zW (ol:List aX)(vs:List aH)(l:Fr):Fr:=dfr ol vs l (j3 ol.length)
end
def kB (st js:List Nat):Nat:=(st.filter fun s=>js.contains s).length
def DK (n : Nat)(ol : List aX)(st : List Nat)(l : Fr)(dss rl : List (List Nat))(ps : List (Nat × Nat)): Bool :=
  (ol.zipIdx.all fun (o, i) => (match o.guard with | none => true | some _ => false) && (o.after.toList.all fun e => !Region.binds .any e || decide (e.on < i)) &&
    ((d9 rl i).all fun j => decide (j < i) && o.after.toList.any fun e => jX .any e && (e.on == j || (d9 rl e.on).contains j)) &&
    ((d9 dss i).all fun j => (d9 rl i).contains j) &&
    (match o.dst with
     | some d => !st.contains i && decide (d < n) && l.all (fun p => p.1 != d) && ol.zipIdx.all (fun (o', j) => j == i || o'.dst != some d)
     | none => st.contains i) &&
    (j3 (st.length + 1)).all (fun t => decide (t < kB st (d9 rl i)) || (t != 0 && (d9 rl (st.getD (t - 1) 0)).contains i) || (st.contains i && t != kB st (d9 rl i)) || ps.contains (i, t))) &&
  (j3 st.length).all (fun t => decide (st.getD t 0 < ol.length) && (j3 t).all fun u => (d9 rl (st.getD t 0)).contains (st.getD u 0))
structure DetOk (n:Nat)(ol:List aX)(st:List Nat)(l:Fr)(dss rl:List (List Nat))(ps:List (Nat×Nat)):Prop where
 guard:∀(i:Nat) (o:aX),ol[i]?=some o→o.guard=none
 back:∀(i:Nat) (o:aX),ol[i]?=some o→∀e∈o.after,jX .any e=true→e.on<i
 reach:∀(i:Nat) (o:aX),ol[i]?=some o→∀j∈d9 rl i,j<i∧∃e∈o.after,jX .any e=true∧(e.on=j∨j∈d9 rl e.on)
 deps:∀(i:Nat) (o:aX),ol[i]?=some o→∀j∈d9 dss i,j∈d9 rl i
 val:∀(i:Nat) (o:aX),ol[i]?=some o→∀d,o.dst=some d→i ∉ st∧d<n∧(∀p∈l,p.1≠d)∧∀(j:Nat) (o':aX),ol[j]?=some o'→j≠i→o'.dst≠some d
 sto:∀(i:Nat) (o:aX),ol[i]?=some o→o.dst=none→i∈st
 pair:∀(i:Nat) (o:aX),ol[i]?=some o→∀t,t≤st.length→kB st (d9 rl i)≤t→(t=0∨i ∉ d9 rl (st.getD (t-1) 0))→(i∈st→t=kB st (d9 rl i))→(i,t)∈ps
 inN:∀t,t<st.length→st.getD t 0<ol.length
 ord:∀t,t<st.length→∀u,u<t→st.getD u 0∈d9 rl (st.getD t 0)
theorem a0G {l:Fr}{rl:List (List Nat)}(h:DK n ol st l dss rl ps=true):DetOk n ol st l dss rl ps:=by
 simp only [DK,fE] at h
 obtain⟨h1,h2⟩:=h
 have key:=fun (i:Nat) (o:aX) (ho:ol[i]?=some o)=>rZ h1 i o ho
 simp only [fE] at key
 have key2:∀t,t<st.length→st.getD t 0<ol.length∧∀u,u<t→st.getD u 0∈d9 rl (st.getD t 0):=by
  intro t ht
  rw [fU] at h2
  have:=h2 t (jJ.2 ht)
  simp only [fE,decide_eq_true_eq,fU,jJ,nJ] at this
  exact this
 refine⟨fun i o ho=>?_,fun i o ho e he hb=>?_,fun i o ho j hj=>?_,fun i o ho j hj=>?_,fun i o ho d hd=>?_,fun i o ho hd=>?_,fun i o ho t ht hc hz hs=>?_,fun t ht=>(key2 t ht).1,fun t ht=>(key2 t ht).2⟩
 ·have:=(key i o ho).1.1.1.1.1
  cases hg:o.guard with
  | none=>rfl
  | some g=>rw [hg] at this;cases this
 ·have:=(key i o ho).1.1.1.1.2
  rw [fU] at this
  have:=this e (by simpa using he)
  simpa [hb] using this
 ·have:=(key i o ho).1.1.1.2
  rw [fU] at this
  have:=this j hj
  simp only [fE,decide_eq_true_eq,AV,nK,beq_iff_eq,nJ] at this
  obtain⟨h3,e,he,hb,h4⟩:=this
  exact⟨h3,e,by simpa using he,hb,h4⟩
 ·have:=(key i o ho).1.1.2
  rw [fU] at this
  simpa using this j hj
 ·have:=(key i o ho).1.2
  rw [hd] at this
  simp only [fE,Bool.not_eq_true',decide_eq_true_eq] at this
  obtain⟨⟨⟨h3,h4⟩,h5⟩,h6⟩:=this
  refine⟨fun hm=>?_,h4,fun p hp=>?_,fun j o' ho' hne e=>?_⟩
  ·rw [nJ.2 hm] at h3;cases h3
  ·rw [fU] at h5
   simpa using h5 p hp
  ·have:=rZ h6 j o' ho'
   simp only [nK,beq_iff_eq,bne_iff_ne] at this
   rcases this with h | h
   ·exact hne h
   ·exact h e
 ·have:=(key i o ho).1.2
  rw [hd] at this
  exact nJ.1 this
 ·have:=(key i o ho).2
  rw [fU] at this
  have:=this t (jJ.2 (by omega))
  simp only [nK,fE,decide_eq_true_eq,bne_iff_ne,ne_eq,nJ] at this
  rcases this with ((h | h) | h) | h
  ·omega
  ·rcases hz with h0 | h0
   ·exact absurd h0 h.1
   ·exact absurd h.2 h0
  ·exact absurd (hs h.1) h.2
  ·exact h
section
variable {P:cD}{Q:dR→Act→a6→Prop}{n:Nat}{ol:List aX}{vs:List aH}{ws:List a6}{w:a6}{dss rl:List (List Nat)}{l:Fr}{st:List Nat}{ps:List (Nat×Nat)}
theorem LR:∀{ps:List (Nat×Nat)},pO P n ol vs ws w dss l st ps→∀i t,(i,t)∈ps→wI P n ol vs ws w dss l st i t
 | [],_,i,t,h=>by cases h
 | (j,u)::r,h,i,t,hm=>by
  rcases uE.1 hm with e | e
  ·cases e;exact h.1
  ·exact LR h.2 i t e
theorem Rp.dfr {a:Act}(hr:Rp n l a):∀(ds:List Nat),(∀j∈ds,∀d,eV ol j=some d→a.tmps.getD d undef=(vs[j]?).getD undef)→Rp n (Go.Proofs.YtkepckmdjncehaaGreatDoor.dfr ol vs l ds) a
 | [],_=>hr
 | j::ds,h=>by
  have ih:=Rp.dfr hr ds (fun i hi=>h i (by simp [hi]))
  simp only [Go.Proofs.YtkepckmdjncehaaGreatDoor.dfr]
  cases hd:eV ol j with
  | none=>exact ih
  | some d=>exact ih.cons (h j (by simp) d hd)
theorem MM (hk:DetOk n ol st l dss rl ps)(h:Closed ol listed):∀(i:Nat) (o:aX),ol[i]?=some o→(∀e∈o.after,jX .any e=true→listed.getD e.on false=true)→∀j∈d9 rl i,listed.getD j false=true:=by
 intro i
 induction i using sH with
 | ind i ih=>
  intro o ho hall j hj
  obtain⟨_,e,he,hb,h1⟩:=hk.reach i o ho j hj
  have hlt:=hk.back i o ho e he hb
  rcases h1 with h1 | h1
  ·rw [←h1];exact hall e he hb
  ·have hN:e.on<ol.length:=Nat.lt_trans hlt (iO.1 ho).1
   exact ih e.on hlt _ (cJ hN) (h e.on _ (cJ hN) (hall e he hb)) j h1
theorem MG {t:Nat}(h:∀u,t≤u→u<st.length→st.getD u 0 ∉ js):kB st js≤t:=by
 unfold kB
 have e:st.filter (fun s=>js.contains s)=(st.take t).filter (fun s=>js.contains s)++(st.drop t).filter (fun s=>js.contains s):=by rw [←O4,pS]
 have e2:(st.drop t).filter (fun s=>js.contains s)= []:=by
  refine List.filter_eq_nil_iff.2 fun s hs=>?_
  obtain⟨u,hu,rfl⟩:=uG hs
  rw [cV] at hu
  have:=h (t+u) (by omega) (by omega)
  rw [List.getElem_drop]
  rw [bC,cJ (by omega)] at this
  simpa using this
 rw [e,e2,List.append_nil]
 refine aG (List.length_filter_le _ _) ?_
 rw [bJ];omega
theorem KM {t:Nat}(ht:t≤st.length)(h:∀u,u<t→st.getD u 0∈js):t≤kB st js:=by
 unfold kB
 have e:st.filter (fun s=>js.contains s)=(st.take t).filter (fun s=>js.contains s)++(st.drop t).filter (fun s=>js.contains s):=by rw [←O4,pS]
 have e2:(st.take t).filter (fun s=>js.contains s)=st.take t:=by
  refine List.filter_eq_self.2 fun s hs=>?_
  obtain⟨u,hu,rfl⟩:=uG hs
  rw [bJ] at hu
  have:=h u (by omega)
  rw [List.getElem_take]
  rw [bC,cJ (by omega)] at this
  simpa using this
 rw [e,e2,List.length_append,bJ];omega
theorem a0E (hk:DetOk n ol st l dss rl ps)(ho:pO P n ol vs ws w dss l st ps)(hfin:eo Q .normal n (zW ol vs l) (wv ws w st.length)):
  ∀(fuel:Nat) (listed:Array Bool) (a:Act) (t:Nat),sQ ol.length listed≤fuel→listed.size=ol.length→Closed ol listed→t≤st.length→(∀u,u<st.length→listed.getD (st.getD u 0) false=decide (u<t))→Rp n l a→
   (∀i,i<ol.length→listed.getD i false=true→∀d,eV ol i=some d→a.tmps.getD d undef=(vs[i]?).getD undef)→wpAny P .any ol.toArray Q fuel listed a (wv ws w t):=by
 have fin:∀(listed:Array Bool) (a:Act) (t:Nat),(∀i,i<ol.length→listed.getD i false=true)→t≤st.length→(∀u,u<st.length→listed.getD (st.getD u 0) false=decide (u<t))→Rp n l a→
   (∀i,i<ol.length→listed.getD i false=true→∀d,eV ol i=some d→a.tmps.getD d undef=(vs[i]?).getD undef)→Q .normal a (wv ws w t):=by
  intro listed a t hall ht hst hr hv
  have e:t=st.length:=by
   rcases jR t st.length with h | h
   ·have h1:=hst t h
    rw [hall _ (hk.inN t h)] at h1
    simp at h1
   ·omega
  subst e
  exact hfin a (hr.dfr _ fun j hj d hd=>hv j (jJ.1 hj) (hall j (jJ.1 hj)) d hd)
 intro fuel
 induction fuel with
 | zero=>
  intro listed a t hf hs hcl ht hst hr hv
  have hall:∀i,i<ol.length→listed.getD i false=true:=by
   intro i hi
   cases h:listed.getD i false with
   | true=>rfl
   | false=>have:=m6 hi hs h;omega
  refine⟨?_,fin listed a t hall ht hst hr hv⟩
  refine AQ.2 fun j hj=>?_
  obtain⟨h1,o,hoj,_⟩:=lC.1 hj
  have hjl:j<ol.length:=(iO.1 hoj).1
  rw [lE,hall j hjl] at h1
  cases h1
 | succ fuel ih=>
  intro listed a t hf hs hcl ht hst hr hv
  refine⟨fun h0=>?_,fun i hir=>?_⟩
  ·refine fin listed a t (fun i hi=>?_) ht hst hr hv
   have key:∀k,k≤ol.length→∀i,i<k→listed.getD i false=true:=by
    intro k
    induction k with
    | zero=>intro _ i hi;omega
    | succ k ihk=>
     intro hk' i hi
     have ih':=ihk (by omega)
     rcases jR i k with h | h
     ·exact ih' i h
     ·have e:i=k:=by omega
      subst e
      cases hb:listed.getD i false with
      | true=>rfl
      | false=>
       have hrdy:i∈sG .any ol.toArray listed:=lC.2 ⟨by rw [lE];exact hb,_,cJ (by omega),fun e he hbb=>ih' _ (hk.back i _ (cJ (by omega)) e he hbb)⟩
       rw [h0] at hrdy;cases hrdy
   exact key ol.length (b8 _) i hi
  ·obtain⟨hun,o,hoi,hall⟩:=lC.1 hir
   have hil:i<ol.length:=(iO.1 hoi).1
   have hun':listed.getD i false=false:=by rw [←lE];exact hun
   have hrch:=MM hk hcl i o hoi hall
   have hcnt:kB st (d9 rl i)≤t:=MG fun u hu1 hu2 hm=>by
    have h1:=hrch _ hm
    rw [hst u hu2] at h1
    simp at h1;omega
   have hzero:t=0∨i ∉ d9 rl (st.getD (t-1) 0):=by
    rcases mH t with h | h
    ·exact cE h
    ·refine bR fun hm=>?_
     have h1:=hst (t-1) (by omega)
     rw [decide_eq_true (by omega)] at h1
     have hN:=hk.inN (t-1) (by omega)
     have h2:=MM hk hcl _ _ (cJ hN) (fun e he hb=>hcl _ _ (cJ hN) h1 e he hb) i hm
     rw [hun'] at h2;cases h2
   have hstore:i∈st→t<st.length∧st.getD t 0=i∧t=kB st (d9 rl i):=by
    intro hm
    obtain⟨u,hu,heq⟩:=uG hm
    have hg:st.getD u 0=i:=by rw [bC,cJ hu];exact heq
    have h1:=hst u hu
    rw [hg,hun'] at h1
    have h2:¬u<t:=by intro h;rw [decide_eq_true h] at h1;cases h1
    have h3:u=t:=by
     rcases jR t u with h | h
     ·have h4:=hk.ord u hu t h
      rw [hg] at h4
      have h5:=hrch _ h4
      rw [hst t (by omega)] at h5
      simp at h5
     ·omega
    subst h3
    refine⟨hu,hg,?_⟩
    have h4:=KM (st:=st) (js:=d9 rl i) (t:=u) (by omega) (fun v hv'=>by rw [←hg];exact hk.ord u hu v hv')
    omega
   have aK:=LR ho i t (hk.pair i o hoi t ht hcnt hzero (fun hm=>(hstore hm).2.2))
   unfold wI at aK
   rw [hoi] at aK
   simp only at aK
   have hacc:Rp n (dfr ol vs l (d9 dss i)) a:=hr.dfr _ fun j hj d hd=>by
    have h1:=hrch j (hk.deps i o hoi j hj)
    have h2:=(hk.reach i o hoi j (hk.deps i o hoi j hj)).1
    exact hv j (by omega) h1 d hd
   have hwant:u6 o (yielded ol.toArray a.tmps)=true:=by simp [u6,hk.guard i o hoi]
   unfold wpOp
   rw [pK,hoi]
   simp only
   rw [if_pos hwant]
   refine cE ?_
   unfold nF
   cases hd:o.dst with
   | some d=>
    obtain⟨hnst,hdn,hfar,hoth⟩:=hk.val i o hoi d hd
    rw [if_neg (by simpa using hnst)] at aK
    rw [aK a hacc]
    simp only [oG,hd]
    refine ih _ _ t (by have:=m6 hil hs hun';omega) (by simpa using hs) (hcl.set hoi hall) ht (fun u hu=>?_) (hr.put_far hfar _) (fun j hj hlj e he=>?_)
    ·rw [getD_set_ne false (fun e=>hnst (by rw [e,bC,cJ hu];exact mI hu))]
     exact hst u hu
    ·by_cases hij:i=j
     ·subst hij
      have e1:eV ol i=some d:=by unfold eV;rw [hoi];exact hd
      rw [e1] at he
      cases he
      exact uQ hr.size hdn _
     ·rw [getD_set_ne false hij] at hlj
      have hne:e≠d:=by
       intro hed
       subst hed
       obtain⟨oj,hoj⟩:∃oj,ol[j]?=some oj:=⟨_,cJ hj⟩
       refine hoth j oj hoj (uB hij) ?_
       unfold eV at he
       rw [hoj] at he
       exact he
      have:=xL (a:=a) (d:=d) (e:=some e) (fun h=>hne (l4 h)) ((vs[i]?).getD undef)
      exact this.trans (hv j hj hlj e he)
   | none=>
    have hm:=hk.sto i o hoi hd
    obtain⟨htl,hgt,_⟩:=hstore hm
    rw [if_pos (by simpa using hm)] at aK
    rw [aK a hacc]
    simp only [oG,hd]
    refine ih _ _ (t+1) (by have:=m6 hil hs hun';omega) (by simpa using hs) (hcl.set hoi hall) (by omega) (fun u hu=>?_) hr (fun j hj hlj e he=>?_)
    ·by_cases hut:u=t
     ·subst hut
      rw [hgt]
      simp [hs,hil]
     ·have hne:i≠st.getD u 0:=by
       intro e
       rcases jR u t with h | h
       ·have h1:=hst u hu
        rw [←e,hun',decide_eq_true h] at h1;cases h1
       ·have h4:=hk.ord u hu t (by omega)
        rw [hgt,←e] at h4
        have:=(hk.reach i o hoi i h4).1
        omega
      rw [getD_set_ne false hne,hst u hu]
      congr 1
      simp only [eq_iff_iff]
      omega
    ·by_cases hij:i=j
     ·subst hij
      have e1:eV ol i=none:=by unfold eV;rw [hoi];exact hd
      rw [e1] at he;cases he
     ·rw [getD_set_ne false hij] at hlj
      exact hv j hj hlj e he
theorem nA (hmix:P.follows .mixedOrders=true)(vs:List aH)(ws:List a6)(st:List Nat)(dss rl:List (List Nat))(ps:List (Nat×Nat)){w0:a6}(hk:DK n ol st l dss rl ps=true)(hw:wv ws w 0=w0.drew)(ho:pO P n ol vs ws w dss l st ps)(hfin:eo Q .normal n (zW ol vs l) (wv ws w st.length)):cw P Q n (.region id ol.toArray true) l w0:=fun a ha=>by
 refine wp_region_any hmix ?_
 have hsz:(uJ ol.toArray.size false).size=ol.length:=by simp
 have hfalse:∀i,(uJ ol.toArray.size false).getD i false=false:=by
  intro i
  simp only [rD,EN]
  split <;> rfl
 have:=a0E (a0G hk) ho hfin ol.toArray.size _ a 0 (by
  refine aG EI ?_
  simp) hsz (fun i o _ h=>by rw [hfalse] at h;cases h) (bW _) (fun u _=>by rw [hfalse];simp) ha (fun i _ h=>by rw [hfalse] at h;cases h)
 rw [hw] at this
 exact this
theorem bI {t:Nat}{wt:a6}(acc:Fr)(ho:ol[i]?=some o)(hs:st.contains i=false)(hv:(vs[i]?).getD undef=v)(hw:wv ws w t=wt)(hacc:dfr ol vs l (d9 dss i)=acc)(h:iT P n acc o wt (.value v) wt)(h':pO P n ol vs ws w dss l st ps):pO P n ol vs ws w dss l st ((i,t)::ps):=⟨by unfold wI;rw [ho];simp only;rw [hs,if_neg (by simp),hv,hw,hacc];exact h,h'⟩
theorem D9 {t:Nat}{wt wt':a6}(acc:Fr)(ho:ol[i]?=some o)(hs:st.contains i=true)(hw:wv ws w t=wt)(hw':wv ws w (t+1)=wt')(hacc:dfr ol vs l (d9 dss i)=acc)(h:iT P n acc o wt .skip wt')(h':pO P n ol vs ws w dss l st ps):pO P n ol vs ws w dss l st ((i,t)::ps):=⟨by unfold wI;rw [ho];simp only;rw [hs,if_pos rfl,hw,hw',hacc];exact h,h'⟩
theorem mZ:pO P n ol vs ws w dss l st []:=trivial
end
def bA (n:Nat):Nat:=if n=0 then 0 else Nat.log2 n+1
theorem kV:bA 0=0:=rfl
theorem jV (n:Nat):n<2^bA n:=by
 unfold bA
 split
 ·omega
 ·exact Nat.lt_log2_self
theorem lH (h:n≠0):2^(bA n-1)≤n:=by
 unfold bA
 rw [if_neg h,kI]
 exact Nat.log2_self_le h
theorem kD:bA n=0↔n=0:=by
 unfold bA;split <;> simp_all
theorem tS (h:n<2^k):bA n≤k:=by
 by_cases h0:n=0
 ·subst h0;rw [kV];omega
 ·have h1:=lH h0
  have h2:2^(bA n-1)<2^k:=iH h1 h
  have:=(sI (by omega:1<2)).1 h2
  have h3:bA n≠0:=fun e=>h0 (kD.1 e)
  omega
theorem rY (h1:n<2^k)(h2:k=0∨2^(k-1)≤n):bA n=k:=by
 have h3:=tS h1
 rcases h2 with h | h
 ·omega
 ·by_cases h0:k=0
  ·omega
  ·have h4:2^(k-1)<2^bA n:=iH h (jV n)
   have:=(sI (by omega:1<2)).1 h4
   omega
theorem N0 (x:Nat)(h:x<18446744073709551616):Lib.bitLen x=bA x:=by
 by_cases h0:x=0
 ·subst h0;simp [Lib.bitLen,Lib.bitLenAux_zero,kV]
 ·obtain⟨a,b,c⟩:=Lib.bitLenAux_bounds 64 x h h0
  exact (rY c (bR b)).symm
theorem lY:WB=2^64:=by decide
theorem MT (x y c:Nat)(hc:c≤1)(w:a6):
  (callFunc 195 #[.int .u64 (x:Int),.int .u64 (y:Int),.int .u64 (c:Int)]).run aF w=
   .ok (.value (.tuple #[.int .u64 (((x+y+c)%18446744073709551616:Nat):Int),.int .u64 (((x+y+c)/18446744073709551616:Nat):Int)])) w:=by
 rw [run_callFunc_extern Tryz.func195 (by kernel_rfl) (by kernel_rfl) (by kernel_rfl) (e:=add64Entry) (by kernel_rfl),run_add64 x y c (by omega) (by omega) (by omega) (by omega)]
 simp only [Result.andThen]
 congr 5 <;> omega
theorem zZ {c:Nat}(hc:c≤1)(hx:x≤18446744073709551615)(hy:y≤18446744073709551615):∃s d:Nat,Hid (s+WB*d=x+y+c)∧s≤18446744073709551615∧d≤1∧
  ∀w,(callFunc 195 #[.int .u64 (x:Int),.int .u64 (y:Int),.int .u64 (c:Int)]).run aF w= .ok (.value (.tuple #[.int .u64 (s:Int),.int .u64 (d:Int)])) w:=
 ⟨(x+y+c)%18446744073709551616,(x+y+c)/18446744073709551616,(show _=_ by rw [cF];exact jY _ _),by omega,by omega,fun w=>MT x y c hc w⟩
theorem wE (hx:x≤18446744073709551615)(hy:y≤18446744073709551615):∃s d:Nat,Hid (s+WB*d=x+y)∧s≤18446744073709551615∧d≤1∧
  ∀w,(callFunc 195 #[.int .u64 (x:Int),.int .u64 (y:Int),.int .u64 0]).run aF w= .ok (.value (.tuple #[.int .u64 (s:Int),.int .u64 (d:Int)])) w:=
 zZ (c:=0) (by omega) hx hy
theorem a1B (hx:x≤18446744073709551615):∃s d:Nat,Hid (s+WB*d=x+1)∧s≤18446744073709551615∧d≤1∧
  ∀w,(callFunc 195 #[.int .u64 (x:Int),.int .u64 0,.int .u64 1]).run aF w= .ok (.value (.tuple #[.int .u64 (s:Int),.int .u64 (d:Int)])) w:=
 zZ (y:=0) (c:=1) (by omega) hx (by omega)
theorem EZ {w:a6}{Q:dR→Act→a6→Prop}(hgd:o.guard=none)(x y c:cS)(ho:o.op= .call {callee:= .value (.func 195),args:= #[x,y,c],argTypes:=ts})(X Y C:Nat)(hx:a.eval x= .int .u64 (X:Int))(hy:a.eval y= .int .u64 (Y:Int))(hz:a.eval c= .int .u64 (C:Int))(hC:C≤1)(hX:X≤18446744073709551615)(hY:Y≤18446744073709551615)(h:∀s d:Nat,Hid (s+WB*d=X+Y+C)→s≤18446744073709551615→d≤1→wpList aF ops Q rest (a.put o.dst (.tuple #[.int .u64 (s:Int),.int .u64 (d:Int)])) w):wpList aF ops Q (o::rest) a w:=by
 refine AM hgd fun K hK=>?_
 have hrun:=MT X Y C hC w
 unfold nF
 have hf:a.eval (.func 195)= .func (.func 195) #[] #[]:=rfl
 simp [execOp,ho,resolve,invoke,hf,hx,hy,hz,hrun,O5,oG]
 have:=hK _ _ (h ((X+Y+C)%18446744073709551616) ((X+Y+C)/18446744073709551616) (show _=_ by rw [cF];exact jY _ _) (by omega) (by omega))
 simpa using this
theorem MS (x y b:Nat)(hb:b≤1)(w:a6):
  (callFunc 196 #[.int .u64 (x:Int),.int .u64 (y:Int),.int .u64 (b:Int)]).run aF w=
   .ok (.value (.tuple #[.int .u64 (((x+18446744073709551616-y-b)%18446744073709551616:Nat):Int),.int .u64 ((if x<y+b then 1 else 0:Nat):Int)])) w:=by
 rw [run_callFunc_extern Tryz.func196 (by kernel_rfl) (by kernel_rfl) (by kernel_rfl) (e:=sub64Entry) (by kernel_rfl),run_sub64 x y b hb]
 rfl
theorem xI {c:Nat}(hc:c≤1)(hx:x≤18446744073709551615)(hy:y≤18446744073709551615):∃s d:Nat,Hid (s+y+c=x+WB*d)∧s≤18446744073709551615∧d≤1∧
  ∀w,(callFunc 196 #[.int .u64 (x:Int),.int .u64 (y:Int),.int .u64 (c:Int)]).run aF w= .ok (.value (.tuple #[.int .u64 (s:Int),.int .u64 (d:Int)])) w:=by
 have hrun:=fun w=>MS x y c hc w
 have e1:(x+18446744073709551616-y-c)%18446744073709551616+y+c=x+WB*(if x<y+c then 1 else 0):=by rw [cF];split <;> omega
 have e2:(x+18446744073709551616-y-c)%18446744073709551616≤18446744073709551615:=by omega
 have e3:(if x<y+c then 1 else 0)≤1:=by split <;> omega
 exact⟨_,_,e1,e2,e3,hrun⟩
theorem QQ (hx:x≤18446744073709551615):∃s d:Nat,Hid (s+0+1=x+WB*d)∧s≤18446744073709551615∧d≤1∧
  ∀w,(callFunc 196 #[.int .u64 (x:Int),.int .u64 0,.int .u64 1]).run aF w= .ok (.value (.tuple #[.int .u64 (s:Int),.int .u64 (d:Int)])) w:=
 xI (y:=0) (c:=1) (by omega) hx (by omega)
theorem EW {w:a6}{Q:dR→Act→a6→Prop}(hgd:o.guard=none)(x y c:cS)(ho:o.op= .call {callee:= .value (.func 196),args:= #[x,y,c],argTypes:=ts})(X Y C:Nat)(hx:a.eval x= .int .u64 (X:Int))(hy:a.eval y= .int .u64 (Y:Int))(hz:a.eval c= .int .u64 (C:Int))(hC:C≤1)(hX:X≤18446744073709551615)(hY:Y≤18446744073709551615)(h:∀s d:Nat,Hid (s+Y+C=X+WB*d)→s≤18446744073709551615→d≤1→wpList aF ops Q rest (a.put o.dst (.tuple #[.int .u64 (s:Int),.int .u64 (d:Int)])) w):wpList aF ops Q (o::rest) a w:=by
 refine AM hgd fun K hK=>?_
 have hrun:=MS X Y C hC w
 have e1:(X+18446744073709551616-Y-C)%18446744073709551616+Y+C=X+WB*(if X<Y+C then 1 else 0):=by rw [cF];split <;> omega
 have e2:(X+18446744073709551616-Y-C)%18446744073709551616≤18446744073709551615:=by omega
 have e3:(if X<Y+C then 1 else 0)≤1:=by split <;> omega
 generalize (X+18446744073709551616-Y-C)%18446744073709551616=s at*
 generalize (if X<Y+C then 1 else 0)=d at*
 unfold nF
 have hf:a.eval (.func 196)= .func (.func 196) #[] #[]:=rfl
 simp only [execOp,ho,resolve,invoke,hf,O5,pT,iN,j7,hx,hy,hz,cK,gN,f8,Array.empty_append,Array.append_empty,hrun,oG]
 exact hK _ _ (h s d e1 e2 e3)
theorem bits_Mul64 (x y:Nat)(hx:x≤18446744073709551615)(hy:y≤18446744073709551615)(w:a6):
  aO aF 255 #[.int .u64 (x:Int),.int .u64 (y:Int)] w fun e w'=>∃hi lo:Nat,Hid (lo+WB*hi=x*y)∧hi≤18446744073709551615∧lo≤18446744073709551615∧
   e= .returned (.tuple #[.int .u64 (hi:Int),.int .u64 (lo:Int)])∧w=w':=by
 refine (Tryz.bits_Mul64 x y (by omega) (by omega) w).mono ?_
 rintro e w' ⟨rfl,rfl⟩
 refine⟨x*y/18446744073709551616,x*y%18446744073709551616,show _=_ by rw [cF];exact jY _ _,?_,by omega,rfl,rfl⟩
 have h1:x*y≤18446744073709551615*18446744073709551615:=jQ hx hy
 omega
theorem bits_Len64 (x:Nat)(hx:x≤18446744073709551615)(w:a6):
  aO aF 194 #[.int .u64 (x:Int)] w fun e w'=>∃n:Nat,Hid (n=bA x)∧n≤64∧e= .returned (.int .i64 (n:Int))∧w=w':=by
 refine (Tryz.bits_Len64 x w (by omega) (by omega)).mono ?_
 rintro e w' ⟨rfl,rfl⟩
 refine⟨bA x,rfl,tS (by omega),?_,rfl⟩
 rw [gV,N0 x (by omega)]
theorem bits_LeadingZeros64 (x:Nat)(hx:x≤18446744073709551615)(w:a6):
  aO aF 265 #[.int .u64 (x:Int)] w fun e w'=>∃n:Nat,Hid (n+bA x=64)∧n≤64∧e= .returned (.int .i64 (n:Int))∧w=w':=by
 refine (Tryz.bits_LeadingZeros64 x w (by omega) (by omega)).mono ?_
 rintro e w' ⟨rfl,rfl⟩
 have h1:bA x≤64:=tS (by omega)
 refine⟨64-bA x,show _=_ by omega,by omega,?_,rfl⟩
 rw [gV,N0 x (by omega)]
 congr 2;omega
theorem EY {w:a6}{Q:dR→Act→a6→Prop}(hgd:o.guard=none){x y:cS}(ho:o.op= .binOp op t x y ty)(hx:a.eval x=vx)(hy:a.eval y=vy)(hne:(op matches .eql | .neq)=false)(hr:∀w,(binOp op t vx vy).run P w= .ok v w)(h:wpList P ops Q rest (a.put o.dst v) w):wpList P ops Q (o::rest) a w:=by
 refine AM hgd fun K hK=>?_
 unfold nF
 have hg:(eqGuard op t x y vx vy).run P w= .ok () w:=by
  unfold eqGuard
  cases op <;> first | rfl | (simp at hne)
 simp only [execOp,ho,hx,hy,cK,hg,f8,hr,gN,oG]
 exact hK _ _ h
theorem eS {w:a6}{Q:dR→Act→a6→Prop}(hgd:o.guard=none){x y:cS}(ho:o.op= .binOp op t x y ty){f:Nat}(hx:a.eval x=vx)(hy:a.eval y=vy)(hne:(op matches .eql | .neq)=false)(hr:∀(P:cD) (t:aT) (w:a6),(binOp op t vx vy).run P w= .ok (.int .u64 (f:Int)) w)(h:∀r:Nat,Hid (r=f)→r≤18446744073709551615→wpList P ops Q rest (a.put o.dst (.int .u64 (r:Int))) w)(hf:f≤18446744073709551615:=by omega):wpList P ops Q (o::rest) a w:=
 EY hgd ho hx hy hne (fun w=>hr P t w) (h f rfl hf)
theorem nN (n:Nat):IntKind.u64.wrap (n:Int)=((n%18446744073709551616:Nat):Int):=by
 simp [wR,uI,uH]
theorem nT (hs:s≤64)(P:cD)(t:aT)(w:a6):(binOp .shl t (.int .u64 (x:Int)) (.int .u64 (s:Int))).run P w= .ok (.int .u64 ((x*2^s%18446744073709551616:Nat):Int)) w:=by
 have e:((x:Int)*2^min (s:Int).toNat IntKind.u64.bits)=((x*2^s:Nat):Int):=by
  rw [gV,show min s IntKind.u64.bits=s from fT hs];simp
 simp only [binOp]
 rw [shift_shl_any _ _ _ _ (by omega),e,nN];rfl
theorem l8 (hs:s≤64)(P:cD)(t:aT)(w:a6):(binOp .shr t (.int .u64 (x:Int)) (.int .u64 (s:Int))).run P w= .ok (.int .u64 ((x/2^s:Nat):Int)) w:=by
 have e:((x:Int)/2^min (s:Int).toNat IntKind.u64.bits)=((x/2^s:Nat):Int):=by
  rw [gV,show min s IntKind.u64.bits=s from fT hs];simp
 simp only [binOp]
 rw [shift_shr_any _ _ _ _ (by omega),e];rfl
theorem sR (P:cD)(t:aT)(w:a6):(binOp .mul t (.int .u64 (x:Int)) (.int .u64 (y:Int))).run P w= .ok (.int .u64 ((x*y%18446744073709551616:Nat):Int)) w:=by
 rw [←nN,kN];rfl
theorem BF (P:cD)(t:aT)(w:a6):(binOp .add t (.int .u64 (x:Int)) (.int .u64 (y:Int))).run P w= .ok (.int .u64 (((x+y)%18446744073709551616:Nat):Int)) w:=by
 rw [←nN,Int.natCast_add];rfl
theorem rG (hy:y≤18446744073709551616)(P:cD)(t:aT)(w:a6):(binOp .sub t (.int .u64 (x:Int)) (.int .u64 (y:Int))).run P w= .ok (.int .u64 (((x+(18446744073709551616-y))%18446744073709551616:Nat):Int)) w:=by
 have e:IntKind.u64.wrap ((x:Int)-(y:Int))=(((x+(18446744073709551616-y))%18446744073709551616:Nat):Int):=by
  simp only [wR,uI,uH]
  simp
  omega
 rw [←e];rfl
theorem FM (hy:y≠0)(hx:x≤18446744073709551615)(P:cD)(t:aT)(w:a6):(binOp .quo t (.int .u64 (x:Int)) (.int .u64 (y:Int))).run P w= .ok (.int .u64 ((x/y:Nat):Int)) w:=by
 have h1:=fI x y
 have e:IntKind.u64.wrap ((x:Int).tdiv (y:Int))=((x/y:Nat):Int):=by
  have:(x:Int).tdiv (y:Int)=((x/y:Nat):Int):=by rw [AW (by omega)];simp
  rw [this,nN,fG (by omega)]
 simp only [binOp,wM]
 simp [hy]
 rw [show (↑x/ ↑y:Int)=((x/y:Nat):Int) from by simp] at*
 simpa [AW] using e
theorem nV (hx:x≤18446744073709551615):(nL 64 (x:Int)).toNat=x:=ofInt_u64 x (by omega)
theorem rH (hx:x≤18446744073709551615)(hy:y≤18446744073709551615)(P:cD)(t:aT)(w:a6):(binOp .or t (.int .u64 (x:Int)) (.int .u64 (y:Int))).run P w= .ok (.int .u64 ((x||| y:Nat):Int)) w:=by
 have e:IntKind.u64.wrap ((nL 64 (x:Int)||| nL 64 (y:Int)).toNat:Int)=((x||| y:Nat):Int):=by
  rw [BitVec.toNat_or,nV hx,nV hy,nN,fG (qZ (n:=64) (by omega) (by omega))]
 rw [←e];rfl
theorem FP (hx:x≤18446744073709551615)(hy:y≤18446744073709551615)(P:cD)(t:aT)(w:a6):(binOp .and t (.int .u64 (x:Int)) (.int .u64 (y:Int))).run P w= .ok (.int .u64 ((x&&& y:Nat):Int)) w:=by
 have e:IntKind.u64.wrap ((nL 64 (x:Int)&&& nL 64 (y:Int)).toNat:Int)=((x&&& y:Nat):Int):=by
  rw [BitVec.toNat_and,nV hx,nV hy,nN,fG (Nat.and_lt_two_pow (n:=64) _ (by omega))]
 rw [←e];rfl
theorem vG (hy:y<2^k):(x*2^k)||| y=x*2^k+y:=nat_join k _ _ (by simp) hy
structure Guess (B yn1 yn0 u un q r:Nat):Prop where
 eq:q*yn1+r=u
 top:u*B+un<(q+1)*(yn1*B+yn0)
 qb:q≤B+1
theorem Guess.start {B:Nat}(_hB:0<B)(h1:B≤2*yn1)(hun:un<B)(hu:u<yn1*B+yn0)(h0:yn0<B):Guess B yn1 yn0 u un (u/yn1) (u%yn1):=by
 have hy1:0<yn1:=by omega
 refine⟨by rw [bY];exact iA u yn1,?_,?_⟩
 ·have h2:u<(u/yn1+1)*yn1:=by
   rw [bY];exact wO u hy1
  have h3:u*B+B≤((u/yn1+1)*yn1)*B:=by
   have:=eA B (oH h2)
   rwa [lZ] at this
  rw [cT,←bH]
  omega
 ·have h2:u<(B+2)*yn1:=by
   rw [dX,bY B]
   omega
  have:=(k0 hy1).2 h2
  omega
theorem Guess.pos {B:Nat}(hB:0<B)(ht:B≤q∨B*r+un<q*yn0):0<q:=by
 rcases ht with h | h
 ·omega
 ·rcases mH q with e | e
  ·subst e;simp at h
  ·exact e
theorem Guess.step {B:Nat}(h:Guess B yn1 yn0 u un q r)(hun:un<B)(hu:u<yn1*B+yn0)(ht:B≤q∨B*r+un<q*yn0)(hq:0<q):Guess B yn1 yn0 u un (q-1) (r+yn1):=by
 obtain⟨e,ht',qb⟩:=h
 refine⟨?_,?_,by omega⟩
 ·have:q*yn1=(q-1)*yn1+yn1:=by
   conv=>lhs;rw [show q=(q-1)+1 from by omega]
   rw [lZ]
  omega
 ·rw [jP hq,cT,←bH]
  rcases ht with h | h
  ·have h1:B*(yn1*B+yn0)≤q*(yn1*B+yn0):=eA _ h
   have h2:B*(u+1)≤B*(yn1*B+yn0):=eF _ hu
   rw [cT,←bH] at h1
   rw [sJ,bY B u] at h2
   have h3:q*(yn1*B+yn0)=q*yn1*B+q*yn0:=by rw [cT,bH]
   have h4:B*(yn1*B+yn0)=B*yn1*B+B*yn0:=by rw [cT,bH]
   omega
  ·have h1:(q*yn1+r)*B=u*B:=by rw [e]
   rw [dX,bY r B] at h1
   omega
theorem Guess.done {B:Nat}(h:Guess B yn1 yn0 u un q r)(h0:yn0<B)(hd:(q<B∧q*yn0≤B*r+un)∨(q≤B∧B≤r)):
  q=(u*B+un)/(yn1*B+yn0)∧q*(yn1*B+yn0)≤u*B+un:=by
 obtain⟨e,ht,_⟩:=h
 have key:q*yn0≤B*r+un:=by
  rcases hd with⟨_,h⟩ | ⟨h1,h2⟩
  ·exact h
  ·have h3:q*yn0≤B*B:=jQ h1 (by omega)
   have h4:B*B≤B*r:=eF _ h2
   omega
 have hle:q*(yn1*B+yn0)≤u*B+un:=by
  have h1:(q*yn1+r)*B=u*B:=by rw [e]
  rw [dX,bY r B] at h1
  rw [cT,←bH]
  omega
 refine⟨?_,hle⟩
 have hpos:0<yn1*B+yn0:=by
  rcases mH (yn1*B+yn0) with h | h
  ·rw [h] at ht;simp at ht
  ·exact h
 exact (Nat.div_eq_of_lt_le (by rw [bY] at hle;rwa [bY]) ht).symm
theorem ET {a c r1 r2 r3 r4:Nat}(h1:r1=a%18446744073709551616)(h2:r2=(r1+b)%18446744073709551616)(h3:r3=c%18446744073709551616)(h4:r4=(r2+(18446744073709551616-r3))%18446744073709551616)(h:a+b=c+d)(hd:d≤18446744073709551615):r4=d:=by
 omega
theorem JK (hy:y≠0)(hs:s+bA y=64):y*2^s<18446744073709551616∧9223372036854775808≤y*2^s:=by
 have h1:=jV y
 have h2:=lH hy
 have hb:bA y≠0:=fun h=>hy (kD.1 h)
 have h3:y*2^s<2^bA y*2^s:=pP h1 (dW s)
 have h4:2^(bA y-1)*2^s≤y*2^s:=eA _ h2
 rw [←bX,show bA y+s=64 from by omega] at h3
 rw [←bX,show bA y-1+s=63 from by omega] at h4
 exact⟨h3,h4⟩
theorem DB (hs:s+bA y=64)(hyy:yy=y*2^s%18446744073709551616)(h1:yn1=yy/2^32)(hy:y≠0:=by omega):yy=y*2^s∧2147483648≤yn1:=by
 obtain⟨a,b⟩:=JK hy hs
 rw [fG a] at hyy
 refine⟨hyy,?_⟩
 rw [h1,hyy];omega
theorem a1v (x:Nat):x&&& 4294967295=x%4294967296:=Nat.and_two_pow_sub_one_eq_mod x 32
theorem RB {lo:Nat}(hs:s≤64):lo*2^s=lo/2^(64-s)*18446744073709551616+lo*2^s%18446744073709551616:=by
 have e:lo*2^s/18446744073709551616=lo/2^(64-s):=by
  have h:(18446744073709551616:Nat)=2^(64-s)*2^s:=by rw [←bX,show 64-s+s=64 from by omega]
  conv=>lhs;rw [h]
  exact rA _ _ (dW s)
 rw [←e,bY (lo*2^s/18446744073709551616)]
 exact (iA _ _).symm
theorem a0A {lo r46 r49 r50:Nat}(hlt:hi<y)(hlo:lo≤18446744073709551615)(hs:s+bA y=64)(hs64:s≤64)(hyy:yy=y*2^s%18446744073709551616)(h1:yn1=yy/2^32)(h0:yn0=yy&&& 4294967295)(h46:r46=hi*2^s%18446744073709551616)(h49:r49=(64+(18446744073709551616-s))%18446744073709551616)(h50:r50=lo/2^r49)(hu:u=r46||| r50)(h10:un10=lo*2^s%18446744073709551616)(hu1:un1=un10/2^32)(hu0:un0=un10&&& 4294967295):
  yy=y*2^s∧yy=yn1*4294967296+yn0∧yn0<4294967296∧yn1<4294967296∧u<yy∧un1<4294967296∧un0<4294967296∧un10=un1*4294967296+un0∧(hi*WB+lo)*2^s=u*18446744073709551616+un10:=by
 obtain⟨e1,_⟩:=DB hs hyy h1
 have hyb:=(JK (y:=y) (by omega) hs).1
 have e49:r49=64-s:=by omega
 have hhi:hi*2^s<y*2^s:=pP hlt (dW s)
 have lF:r46=hi*2^s:=by rw [h46,fG (by omega)]
 have hsp:=RB (lo:=lo) hs64
 rw [e49] at h50
 have hr50:r50<2^s:=by
  rw [h50]
  refine wP ?_
  rw [←bX,show 64-s+s=64 from by omega]
  omega
 have eu:u=hi*2^s+r50:=by rw [hu,lF,vG hr50]
 rw [a1v] at h0 hu0
 have eU:(hi*WB+lo)*2^s=u*18446744073709551616+un10:=by
  rw [dX,cF,hsp,eu,←h50,←h10,dX,kH]
  omega
 have huy:u<yy:=by
  have h2:(hi+1)*2^s≤y*2^s:=eA _ hlt
  rw [lZ] at h2
  omega
 refine⟨e1,by omega,by omega,by omega,huy,by omega,by omega,by omega,eU⟩
theorem a0B {lo q1 v q0:Nat}(hy:0<y)(e1:yy=y*2^s)(e10:un10=un1*4294967296+un0)(eU:(hi*WB+lo)*2^s=u*18446744073709551616+un10)(hq1:u*4294967296+un1=q1*yy+v)(hq0:v*4294967296+un0=q0*yy+r)(hr:r<yy):
  (hi*WB+lo)/y=q1*4294967296+q0∧(hi*WB+lo)%y=r/2^s:=by
 have hp:=dW s
 have e2:(hi*WB+lo)*2^s=(q1*4294967296+q0)*yy+r:=by
  have e3:(q1*4294967296+q0)*yy=(q1*yy)*4294967296+q0*yy:=by rw [dX,kH]
  have e4:u*18446744073709551616+un1*4294967296=(u*4294967296+un1)*4294967296:=by rw [dX,bH]
  rw [eU,e10,e3,←j0,e4,hq1,dX,j0,hq0,j0]
 have hyy:0<yy:=by rw [e1];exact fS hy hp
 constructor
 ·rw [←rA _ _ hp,←e1,e2,bY _ yy,nH hyy,gT hr,dN]
 ·have h:=sK (2^s) (hi*WB+lo) y
  rw [←e1,e2,bY _ yy,wN,fG hr] at h
  rw [h,Nat.mul_div_cancel _ hp]
def ED (hi lo y:Nat)(w:a6)(e:fA)(w':a6):Prop:=
 ∃q r:Nat,Hid (q=(hi*WB+lo)/y)∧Hid (r=(hi*WB+lo)%y)∧q≤18446744073709551615∧r<y∧e= .returned (.tuple #[.int .u64 (q:Int),.int .u64 (r:Int)])∧∃m,w'=w.drewN m
theorem a0y {lo:Nat}(hlo:lo≤18446744073709551615)(hy:1≤y)(hyb:y≤18446744073709551615)(w:a6):
  aO aF 264 #[.int .u64 0,.int .u64 (lo:Int),.int .u64 (y:Int)] w (ED 0 lo y w):=by
 have h1:((y:Int)==0)=false:=by simp;omega
 have h2:¬(y:Int)≤0:=by omega
 have h3:(lo:Int)/(y:Int)≤(lo:Int):=Int.ediv_le_self _ (by omega)
 have h4:0≤(lo:Int)/(y:Int):=Int.ediv_nonneg (by omega) (by omega)
 have h5:=Int.emod_nonneg (lo:Int) (b:=(y:Int)) (by omega)
 have h6:=Int.emod_lt_of_pos (lo:Int) (b:=(y:Int)) (by omega)
 go_enter Tryz.func264,Tryz.ntmps264
 go_wp2_with fail
 go_quiet (fail)
 go_wp2_with fail
 go_ret2
 refine⟨lo/y,lo%y,by simp [Hid],by simp [Hid],?_,eO _ hy,by simp,_,rfl⟩
 have:=fI lo y
 omega
theorem Guess.fin (e:yy=yn1*4294967296+yn0)(h0:yn0<4294967296)(hyy:0<yy)(hu:u<yy)(hun:un<4294967296)(hG:Guess 4294967296 yn1 yn0 u un q r)(hd:(q<4294967296∧q*yn0≤4294967296*r+un)∨(q≤4294967296∧4294967296≤r)):q≤4294967295∧∃v,Hid (u*4294967296+un=q*yy+v)∧v<yy:=by
 obtain⟨a,b⟩:=hG.done h0 hd
 rw [←e] at a b
 refine⟨?_,u*4294967296+un-q*yy,?_,?_⟩
 ·have:q<4294967296:=by
   rw [a]
   refine wP ?_
   have:=eA 4294967296 (oH hu)
   rw [lZ] at this
   omega
  omega
 ·show _=_
  omega
 ·have:=wO (u*4294967296+un) hyy
  rw [←a,cT,cI,bY yy q] at this
  omega
theorem IO {r65 rh:Nat}(hy:0<y)(hu:u≤18446744073709551615)(e1:q=u/y)(e2:r65=q*y%18446744073709551616)(e3:rh=(u+(18446744073709551616-r65))%18446744073709551616):rh=u%y:=by
 have e4:=iA u y
 rw [e1,bY] at e2
 have e5:=eO u hy
 generalize y*(u/y)=a at*
 generalize u%y=b at*
 omega
set_option maxHeartbeats 4000000 in
theorem a0z {lo:Nat}(hhi:1≤hi)(hlt:hi<y)(hlo:lo≤18446744073709551615)(hyb:y≤18446744073709551615)(w:a6):
  aO aF 264 #[.int .u64 (hi:Int),.int .u64 (lo:Int),.int .u64 (y:Int)] w (ED hi lo y w):=by
 have h1:((y:Int)==0)=false:=by simp;omega
 have h2:¬(y:Int)≤(hi:Int):=by omega
 have h3:((hi:Int)==0)=false:=by simp;omega
 go_enter Tryz.func264,Tryz.ntmps264
 go_wp2_with fail
 refine (bits_LeadingZeros64 y hyb _).mono ?_
 rintro e w' ⟨s,hs,hs64,rfl,rfl⟩
 go_upto_block 0 with (first
  | ((with_reducible refine dZ (some 39) ?_);refine eS rfl rfl rfl rfl rfl (nT hs64) ?_;intro yy hyy hyyb)
  | ((with_reducible refine dZ (some 41) ?_);refine eS rfl rfl rfl rfl rfl (l8 (s:=32) (by omega)) ?_;intro yn1 hyn1 hyn1b)
  | ((with_reducible refine dZ (some 43) ?_);refine eS rfl rfl rfl rfl rfl (FP (y:=4294967295) hyyb (by omega)) ?_ (hf:=(by have:=Nat.and_le_left (n:=yy) (m:=4294967295);omega));intro yn0 hyn0 hyn0b)
  | ((with_reducible refine dZ (some 46) ?_);refine eS rfl rfl rfl rfl rfl (nT hs64) ?_;intro r46 h46 hb46)
  | ((with_reducible refine dZ (some 49) ?_);refine eS rfl rfl rfl rfl rfl (rG (x:=64) (y:=s) (by omega)) ?_;intro r49 h49 hb49)
  | ((with_reducible refine dZ (some 50) ?_);refine eS rfl rfl rfl rfl rfl (l8 (s:=r49) (by rw [h49.out];omega)) ?_ (hf:=(by have:=fI lo (2^r49);omega));intro r50 h50 hb50)
  | ((with_reducible refine dZ (some 51) ?_);refine eS rfl rfl rfl rfl rfl (rH hb46 hb50) ?_ (hf:=(by have:=qZ (n:=64) (x:=r46) (y:=r50) (by omega) (by omega);omega));intro u hu hub)
  | ((with_reducible refine dZ (some 54) ?_);refine eS rfl rfl rfl rfl rfl (nT hs64) ?_;intro un10 h10 hb10)
  | ((with_reducible refine dZ (some 56) ?_);refine eS rfl rfl rfl rfl rfl (l8 (s:=32) (by omega)) ?_;intro un1 hun1 hun1b)
  | ((with_reducible refine dZ (some 58) ?_);refine eS rfl rfl rfl rfl rfl (FP (y:=4294967295) hb10 (by omega)) ?_ (hf:=(by have:=Nat.and_le_left (n:=un10) (m:=4294967295);omega));intro un0 hun0 hun0b)
  | ((with_reducible refine dZ (some 61) ?_);refine eS rfl rfl rfl rfl rfl (FM (by have:=(DB hs.out hyy.out hyn1.out).2;omega) hub) ?_ (hf:=(by have:=fI u yn1;omega));intro q1 hq1 hq1b)
  | ((with_reducible refine dZ (some 65) ?_);refine eS rfl rfl rfl rfl rfl sR ?_;intro r65 h65 hb65)
  | ((with_reducible refine dZ (some 66) ?_);refine eS rfl rfl rfl rfl rfl (rG (by omega)) ?_;intro rh hrh hrhb))
 have hN:=a0A hlt hlo hs.out hs64 hyy.out hyn1.out hyn0.out h46.out h49.out h50.out hu.out h10.out hun1.out hun0.out
 have hyn1lo:=(DB hs.out hyy.out hyn1.out).2
 obtain⟨n1,n2,n3,n4,n5,n6,n7,n8,n9⟩:=hN
 have N1:=Lib.hid n1
 have N2:=Lib.hid n2
 have N3:=Lib.hid n3
 have N5:=Lib.hid n5
 have N6:=Lib.hid n6
 have NL:=Lib.hid hyn1lo
 have hyylo:0<yy:=by omega
 have hyn1hi:(yn1:Int)≤4294967295:=by omega
 have hyn1pos:0<yn1:=by omega
 have hun1hi:(un1:Int)≤4294967295:=by omega
 have hyn0hi:(yn0:Int)≤4294967295:=by omega
 have hun0hi:(un0:Int)≤4294967295:=by omega
 have N8:=Lib.hid n8
 have N9:=Lib.hid n9
 have hq1':Hid (q1=u/yn1):=hq1
 have hrh':Hid (rh=u%yn1):=IO (by omega) hub hq1.out h65.out hrh.out
 clear n1 n2 n3 n4 n5 n6 n7 n8 n9 hyn1lo hyy hyn1 hyn0 h46 h49 h50 hu h10 hun1 hun0 h65 hrh hq1
 clear hb46 hb49 hb50 hb65 hrhb hq1b h1 h2 h3
 go_cut [15,16] (fun a b wc=>∃q r v:Nat,a= .int .u64 (q:Int)∧b= .int .u64 (r:Int)∧q≤4294967295∧Hid (u*4294967296+un1=q*yy+v)∧v<yy∧w=wc)
 case first=>
  have HG0:=Lib.hid (Guess.start (B:=4294967296) (yn1:=yn1) (yn0:=yn0) (u:=u) (un:=un1) (by omega) (by have:=NL.out;omega) N6.out (by rw [←N2.out];exact N5.out) N3.out)
  refine wp_block ?_
  go_wp2_with fail
  go_loop [15,16] (fun a b=>∃q r:Nat,a= .int .u64 (q:Int)∧b= .int .u64 (r:Int)∧q≤4294967297∧r≤4294967295∧Hid (Guess 4294967296 yn1 yn0 u un1 q r)) (fun a b=>(intOf a).toNat)
  case atStart=>exact⟨q1,rh,rfl,rfl,by have:=HG0.out.qb;rw [hq1'.out];omega,by rw [hrh'.out];have:=eO u (show 0<yn1 by omega);omega,by rw [hq1'.out,hrh'.out];exact HG0⟩
  case round=>
   obtain⟨q,r,rfl,rfl,hq,hr,hG⟩:=hrel
   by_cases hqB:(4294967296:Int)≤(q:Int)
   ·have HS:=Lib.hid (hG.out.step N6.out (by rw [←N2.out];exact N5.out) (cE (by omega)) (by omega))
    have HQ:=Lib.hid hq
    by_cases hrB:(4294967296:Int)≤(r:Int)+(yn1:Int)
    ·go_upto_region 20 with (fail)
     have HQB:=Lib.hid hqB
     clear hqB
     go_wp2_with fail
     go_meet
     case rel=>
      obtain⟨a,v,b,c⟩:=Guess.fin N2.out N3.out hyylo N5.out N6.out HS.out (bR ⟨by have:=HQB.out;omega,by omega⟩)
      exact⟨q-1,r+yn1,v,fW (h:=(by have:=HQB.out;omega)),fW,a,b,c,rfl⟩
    ·go_upto_region 20 with (fail)
     have HQB:=Lib.hid hqB
     clear hqB
     go_wp2_with fail
     go_round
     case rel=>exact⟨q-1,r+yn1,fW (h:=(by have:=HQB.out;omega)),fW,by omega,by omega,HS⟩
     case measure=>have:=HQB.out;simp [intOf];omega
   ·have hp1:(q:Int)*(yn0:Int)≤18446744065119617025:=by
     have h:q*yn0≤4294967295*4294967295:=jQ (by omega) (by omega)
     rw [←kN];omega
    have hp0:0≤(q:Int)*(yn0:Int):=Int.mul_nonneg (by omega) (by omega)
    by_cases hT:4294967296*r+un1<q*yn0
    ·have hTi:4294967296*(r:Int)+(un1:Int)<(q:Int)*(yn0:Int):=by rw [←kN];omega
     have hqp:=Guess.pos (B:=4294967296) (r:=r) (un:=un1) (by omega) (bR hT)
     have HS:=Lib.hid (hG.out.step N6.out (by rw [←N2.out];exact N5.out) (bR hT) hqp)
     clear hT
     by_cases hrB:(4294967296:Int)≤(r:Int)+(yn1:Int)
     ·go_wp2_with fail
      go_meet
      case rel=>
       obtain⟨a,v,b,c⟩:=Guess.fin N2.out N3.out hyylo N5.out N6.out HS.out (bR ⟨by omega,by omega⟩)
       exact⟨q-1,r+yn1,v,fW,fW,a,b,c,rfl⟩
     ·go_wp2_with fail
      go_round
      case rel=>exact⟨q-1,r+yn1,fW,fW,by omega,by omega,HS⟩
      case measure=>simp [intOf];omega
    ·have hTi:¬4294967296*(r:Int)+(un1:Int)<(q:Int)*(yn0:Int):=by rw [←kN];omega
     have HT:=Lib.hid (show q*yn0≤4294967296*r+un1 by omega)
     clear hT
     go_wp2_with fail
     go_meet
     case rel=>
      obtain⟨a,v,b,c⟩:=Guess.fin N2.out N3.out hyylo N5.out N6.out hG.out (cE ⟨by omega,HT.out⟩)
      exact⟨q,r,v,rfl,rfl,a,b,c,rfl⟩
 case rest=>
  obtain⟨qa,ra,v,rfl,rfl,hqa,hv,hvy,rfl⟩:=hcut
  clear hq1' hrh'
  go_upto_block 2 with (first
   | ((with_reducible refine dZ (some 87) ?_);refine eS rfl rfl rfl rfl rfl sR ?_;intro r87 h87 hb87)
   | ((with_reducible refine dZ (some 89) ?_);refine eS rfl rfl rfl rfl rfl BF ?_;intro r89 h89 hb89)
   | ((with_reducible refine dZ (some 92) ?_);refine eS rfl rfl rfl rfl rfl sR ?_;intro r92 h92 hb92)
   | ((with_reducible refine dZ (some 93) ?_);refine eS rfl rfl rfl rfl rfl (rG (by omega)) ?_;intro v' hv' hbv';obtain rfl:v'=v:=ET h87.out h89.out h92.out hv'.out hv.out (by omega))
   | ((with_reducible refine dZ (some 96) ?_);refine eS rfl rfl rfl rfl rfl (FM (by omega) (by omega)) ?_ (hf:=(by have:=fI v' yn1;omega));intro q2 hq2 hq2b)
   | ((with_reducible refine dZ (some 100) ?_);refine eS rfl rfl rfl rfl rfl sR ?_;intro r100 h100 hb100)
   | ((with_reducible refine dZ (some 101) ?_);refine eS rfl rfl rfl rfl rfl (rG (by omega)) ?_;intro rh2 hrh2 hrhb2))
  have hq2':Hid (q2=v'/yn1):=hq2
  have hrh2':Hid (rh2=v'%yn1):=IO (by omega) (by omega) hq2.out h100.out hrh2.out
  have NV:=Lib.hid hvy
  have N7:=Lib.hid (show un0<4294967296 by omega)
  clear hvy hrh2 hq2 h100 h87 h89 h92 hv' hb87 hb89 hb92 hbv' hb100 hrhb2 hq2b
  go_cut [18,16] (fun a b wc=>∃q r v:Nat,a= .int .u64 (q:Int)∧b= .int .u64 (r:Int)∧q≤4294967295∧Hid (v'*4294967296+un0=q*yy+v)∧v<yy∧w=wc)
  case first=>
   have HG0:=Lib.hid (Guess.start (B:=4294967296) (yn1:=yn1) (yn0:=yn0) (u:=v') (un:=un0) (by omega) (by have:=NL.out;omega) N7.out (by rw [←N2.out];exact NV.out) N3.out)
   refine wp_block ?_
   go_wp2_with fail
   go_loop [18,16] (fun a b=>∃q r:Nat,a= .int .u64 (q:Int)∧b= .int .u64 (r:Int)∧q≤4294967297∧r≤4294967295∧Hid (Guess 4294967296 yn1 yn0 v' un0 q r)) (fun a b=>(intOf a).toNat)
   case atStart=>exact⟨q2,rh2,rfl,rfl,by have:=HG0.out.qb;rw [hq2'.out];omega,by rw [hrh2'.out];have:=eO v' (show 0<yn1 by omega);omega,by rw [hq2'.out,hrh2'.out];exact HG0⟩
   case round=>
    obtain⟨q,r,rfl,rfl,hq,hr,hG⟩:=hrel
    by_cases hqB:(4294967296:Int)≤(q:Int)
    ·have HS:=Lib.hid (hG.out.step N7.out (by rw [←N2.out];exact NV.out) (cE (by omega)) (by omega))
     have HQ:=Lib.hid hq
     by_cases hrB:(4294967296:Int)≤(r:Int)+(yn1:Int)
     ·go_upto_region 27 with (fail)
      have HQB:=Lib.hid hqB
      clear hqB
      go_wp2_with fail
      go_meet
      case rel=>
       obtain⟨a,v,b,c⟩:=Guess.fin N2.out N3.out hyylo NV.out N7.out HS.out (bR ⟨by have:=HQB.out;omega,by omega⟩)
       exact⟨q-1,r+yn1,v,fW (h:=(by have:=HQB.out;omega)),fW,a,b,c,rfl⟩
     ·go_upto_region 27 with (fail)
      have HQB:=Lib.hid hqB
      clear hqB
      go_wp2_with fail
      go_round
      case rel=>exact⟨q-1,r+yn1,fW (h:=(by have:=HQB.out;omega)),fW,by omega,by omega,HS⟩
      case measure=>have:=HQB.out;simp [intOf];omega
    ·have hp1:(q:Int)*(yn0:Int)≤18446744065119617025:=by
      have h:q*yn0≤4294967295*4294967295:=jQ (by omega) (by omega)
      rw [←kN];omega
     have hp0:0≤(q:Int)*(yn0:Int):=Int.mul_nonneg (by omega) (by omega)
     by_cases hT:4294967296*r+un0<q*yn0
     ·have hTi:4294967296*(r:Int)+(un0:Int)<(q:Int)*(yn0:Int):=by rw [←kN];omega
      have hqp:=Guess.pos (B:=4294967296) (r:=r) (un:=un0) (by omega) (bR hT)
      have HS:=Lib.hid (hG.out.step N7.out (by rw [←N2.out];exact NV.out) (bR hT) hqp)
      clear hT
      by_cases hrB:(4294967296:Int)≤(r:Int)+(yn1:Int)
      ·go_wp2_with fail
       go_meet
       case rel=>
        obtain⟨a,v,b,c⟩:=Guess.fin N2.out N3.out hyylo NV.out N7.out HS.out (bR ⟨by omega,by omega⟩)
        exact⟨q-1,r+yn1,v,fW,fW,a,b,c,rfl⟩
      ·go_wp2_with fail
       go_round
       case rel=>exact⟨q-1,r+yn1,fW,fW,by omega,by omega,HS⟩
       case measure=>simp [intOf];omega
     ·have hTi:¬4294967296*(r:Int)+(un0:Int)<(q:Int)*(yn0:Int):=by rw [←kN];omega
      have HT:=Lib.hid (show q*yn0≤4294967296*r+un0 by omega)
      clear hT
      go_wp2_with fail
      go_meet
      case rel=>
       obtain⟨a,v,b,c⟩:=Guess.fin N2.out N3.out hyylo NV.out N7.out hG.out (cE ⟨by omega,HT.out⟩)
       exact⟨q,r,v,rfl,rfl,a,b,c,rfl⟩
  case rest=>
   obtain⟨qb,rb,r,rfl,rfl,hqb,hr,hry,rfl⟩:=hcut
   clear hq2' hrh2'
   have HR:=Lib.hid hry
   clear hry
   go_wp2_with (first
    | ((with_reducible refine dZ (some 126) ?_);refine eS rfl rfl rfl rfl rfl sR ?_;intro r126 h126 hb126)
    | ((with_reducible refine dZ (some 128) ?_);refine eS rfl rfl rfl rfl rfl BF ?_;intro r128 h128 hb128)
    | ((with_reducible refine dZ (some 131) ?_);refine eS rfl rfl rfl rfl rfl sR ?_;intro r131 h131 hb131)
    | ((with_reducible refine dZ (some 132) ?_);refine eS rfl rfl rfl rfl rfl (rG (by omega)) ?_;intro r' hr' hbr';obtain rfl:r'=r:=ET h126.out h128.out h131.out hr'.out hr.out (by have:=HR.out;omega))
    | ((with_reducible refine dZ (some 134) ?_);refine eS rfl rfl rfl rfl rfl (l8 hs64) ?_ (hf:=(by have:=fI r' (2^s);omega));intro rr hrr hrrb))
   go_ret2
   obtain⟨e1,e2⟩:=a0B (by omega) N1.out N8.out N9.out hv.out hr.out HR.out
   have hy0:0<y:=by omega
   refine⟨_,_,e1.symm,e2.symm,by omega,?_,?_,0,rfl⟩
   ·rw [←e2];exact eO _ hy0
   ·rw [←hrr.out];simp
theorem MZ {lo:Nat}(hlt:hi<y)(hlo:lo≤18446744073709551615)(hyb:y≤18446744073709551615)(w:a6):
  aO aF 264 #[.int .u64 (hi:Int),.int .u64 (lo:Int),.int .u64 (y:Int)] w (ED hi lo y w):=by
 rcases mH hi with e | e
 ·subst e;exact a0y hlo (by omega) hyb w
 ·exact a0z e hlt hlo hyb w
end
section
def nb (b:Nat):List Nat→Nat
 | []=>0
 | x::r=>x+b*nb b r
def Wfb (b:Nat)(xs:List Nat):Prop:=∀x∈xs,x<b
theorem yL (b:Nat):nb b []=0:=rfl
theorem lD (b x:Nat)(r:List Nat):nb b (x::r)=x+b*nb b r:=rfl
theorem vI (xs:List Nat):nv xs=nb WB xs:=by
 induction xs with
 | nil=>rfl
 | cons x r ih=>rw [qK,lD,ih]
theorem rP (b:Nat)(xs ys:List Nat):nb b (xs++ys)=nb b xs+b^xs.length*nb b ys:=by
 induction xs with
 | nil=>simp [nb]
 | cons x r ih=>
  simp only [j8,nb,ih,cO,cB]
  rw [cT,←bH,bY b (b^r.length),j0]
theorem nX (h:Wfb b xs):nb b xs<b^xs.length:=by
 induction xs with
 | nil=>simp [nb]
 | cons x r ih=>
  have hx:x<b:=h x (by simp)
  have hr:=ih (fun y hy=>h y (by simp [hy]))
  simp only [nb,cO,cB]
  have:b*nb b r+b≤b*b^r.length:=by
   have:=eF b (oH hr)
   rw [sJ] at this;exact this
  rw [bY (b^r.length)]
  omega
theorem vK (b n:Nat):nb b (bP n 0)=0:=by
 induction n with
 | zero=>rfl
 | succ n ih=>simp [AP,nb,ih]
theorem vL (b:Nat)(xs:List Nat)(x:Nat):nb b (xs++ [x])=nb b xs+b^xs.length*x:=by
 rw [rP];simp [nb]
def qV (b:Nat):Nat→Nat→List Nat
 | 0,_=> []
 | f+1,n=>if n=0 then [] else n%b::qV b f (n/b)
def db (b n:Nat):List Nat:=qV b n n
theorem M7 (hb:2≤b)(f:Nat):∀(g n:Nat),n≤f→n≤g→qV b f n=qV b g n:=by
 induction f with
 | zero=>
  intro g n h _
  have:n=0:=by omega
  subst this
  cases g <;> simp [qV]
 | succ f ih=>
  intro g n h hg
  by_cases h0:n=0
  ·subst h0;cases g <;> simp [qV]
  ·cases g with
   | zero=>omega
   | succ g=>
    have hlt:n/b<n:=jZ (by omega) (by omega)
    simp only [qV,h0,if_false]
    rw [ih g (n/b) (by omega) (by omega)]
theorem lG (b:Nat):db b 0= []:=rfl
theorem lR (hb:2≤b)(h:n≠0):db b n=n%b::db b (n/b):=by
 have hlt:n/b<n:=jZ (by omega) (by omega)
 unfold db
 conv=>lhs;rw [M7 hb n (n+1) n (b8 _) (by omega)]
 simp only [qV,h,if_false]
 rw [M7 hb n (n/b) (n/b) (by omega) (b8 _)]
theorem DN (hb:2≤b){p:Nat→Prop}(h0:p 0)(hs:∀n,n≠0→p (n/b)→p n)(n:Nat):p n:=by
 induction n using sH with
 | ind n ih=>
  by_cases h:n=0
  ·subst h;exact h0
  ·exact hs n h (ih _ (jZ (by omega) (by omega)))
theorem iB (hb:2≤b)(n:Nat):nb b (db b n)=n:=by
 induction n using DN hb with
 | h0=>rfl
 | hs n h ih=>rw [lR hb h,lD,ih];exact jY n b
theorem kY (hb:2≤b)(n:Nat):Wfb b (db b n):=by
 induction n using DN hb with
 | h0=>intro x hx;cases hx
 | hs n h ih=>
  rw [lR hb h]
  intro x hx
  cases uE.1 hx with
  | inl e=>subst e;exact eO _ (by omega)
  | inr e=>exact ih x e
theorem zO (hb:2≤b):db b n= []↔n=0:=by
 constructor
 ·intro h;rw [←iB hb n,h];rfl
 ·rintro rfl;rfl
theorem rS (hb:2≤b):(db b n).length=0↔n=0:=by
 rw [pU];exact zO hb
theorem M6 {b:Nat}(hb:2≤b):∀{xs:List Nat},Wfb b xs→(∀h:xs≠ [],xs.getLast h≠0)→db b (nb b xs)=xs
 | [],_,_=>rfl
 | [x],hw,ht=>by
  have hx:x<b:=hw x (by simp)
  have h0:x≠0:=ht (by simp)
  simp only [nb,iG,dN]
  rw [lR hb h0,fG hx,gT hx,lG]
 | x::y::r,hw,ht=>by
  have hb0:0<b:=by omega
  have hx:x<b:=hw x (by simp)
  have ih:=M6 hb (xs:=y::r) (fun z hz=>hw z (by simp [hz])) (fun h=>by have:=ht (by simp);simpa [List.getLast_cons] using this)
  have hpos:nb b (y::r)≠0:=by
   intro e
   rw [e,lG] at ih
   cases ih
  have hn:nb b (x::y::r)≠0:=by
   rw [lD]
   have:0<b*nb b (y::r):=fS hb0 (by omega)
   omega
  rw [lR hb hn,lD,AN,fG hx,uD _ _ hb0,gT hx,f9,ih]
theorem DM (hb:2≤b)(hw:Wfb b xs)(ht:xs.length=0∨xs.getD (xs.length-1) 0≠0):db b (nb b xs)=xs:=by
 refine M6 hb hw (fun h=>?_)
 have hl:xs.length≠0:=by simpa using h
 rcases ht with h' | h'
 ·exact absurd h' hl
 ·rw [O3]
  have:xs.length-1<xs.length:=by omega
  rwa [bC,cJ this,nE] at h'
theorem wA (hb:2≤b)(n:Nat):(db b n).length=0∨(db b n).getD ((db b n).length-1) 0≠0:=by
 induction n using DN hb with
 | h0=>exact cE rfl
 | hs n h ih=>
  right
  rw [lR hb h]
  rcases ih with h' | h'
  ·have h2:n/b=0:=(rS hb).1 h'
   have h3:n<b:=(Nat.div_eq_zero_iff.1 h2).resolve_left (by omega)
   rw [h2,lG]
   simp only [List.length_singleton,Nat.sub_self]
   show n%b≠0
   rw [fG h3];exact h
  ·have hl:(db b (n/b)).length≠0:=fun e=>by
    rw [pU.1 e] at h';simp at h'
   obtain⟨k,hk⟩:∃k,(db b (n/b)).length=k+1:=⟨_,(Nat.succ_pred_eq_of_ne_zero hl).symm⟩
   have e:(db b (n/b)).length-1=k:=by omega
   rw [e] at h'
   rw [cO,hk,kI]
   simpa using h'
theorem kF (h:Wfb b xs)(k:Nat):Wfb b (xs.take k):=fun x hx=>h x (l5 hx)
theorem E3 (h:Wfb b xs)(k:Nat):Wfb b (xs.drop k):=fun x hx=>h x (gK hx)
theorem sA (h:Wfb b xs)(k:Wfb b ys):Wfb b (xs++ys):=fun x hx=>by
 rcases nI.1 hx with e | e
 ·exact h x e
 ·exact k x e
theorem iY (h:Wfb b xs)(i:Nat)(hb:0<b:=by decide):xs.getD i 0<b:=by
 by_cases hi:i<xs.length
 ·rw [bC,cJ hi];exact h _ (mI hi)
 ·rw [bC,kM (by omega)];exact hb
theorem NG (b:Nat):Wfb b []:=fun x hx=>by cases hx
theorem pL (n:Nat)(hb:0<b:=by decide):Wfb b (bP n 0):=fun x hx=>by rw [(wQ.1 hx).2];exact hb
theorem a1F (h:x<b):Wfb b [x]:=fun y hy=>by rw [jI.1 hy];exact h
theorem iX (h:Wfb b xs)(i:Nat)(hx:x<b:=by omega):Wfb b (xs.set i x):=fun y hy=>by
 rcases O2 hy with e | e
 ·exact h y e
 ·rw [e];exact hx
theorem iL (b:Nat)(xs:List Nat)(k:Nat)(h:k<xs.length):nb b (xs.take (k+1))=nb b (xs.take k)+b^k*xs.getD k 0:=by
 rw [uO xs k h 0,vL,bJ,fT (by omega)]
theorem mV (b:Nat)(xs:List Nat)(k:Nat)(h:k≤xs.length:=by omega):nb b xs=nb b (xs.take k)+b^k*nb b (xs.drop k):=by
 have:=rP b (xs.take k) (xs.drop k)
 rw [pS,bJ,fT h] at this
 exact this
theorem yK (b:Nat)(xs:List Nat)(k:Nat)(h:k<xs.length)(h0:xs.getD k 0=0):nb b (xs.take (k+1))=nb b (xs.take k):=by
 rw [iL b xs k h,h0];simp
theorem rO (hb:0<b)(h:Wfb b xs)(k:Nat):nb b (xs.take k)<b^k:=by
 have h1:=nX (kF h k)
 have h2:b^(xs.take k).length≤b^k:=dU hb (by rw [bJ];omega)
 omega
theorem zM (hb:2≤b)(hw:Wfb b xs)(hk:k≤xs.length)(hv:nb b (xs.take k)=nb b xs)(ht:k=0∨xs.getD (k-1) 0≠0):db b (nb b xs)=xs.take k:=by
 have hl:(xs.take k).length=k:=by rw [bJ];omega
 rw [←hv]
 refine DM hb (kF hw k) ?_
 rw [hl]
 rcases ht with h | h
 ·exact cE h
 ·by_cases h0:k=0
  ·exact cE h0
  ·refine bR ?_
   rw [bC,kJ,if_pos (by omega),←bC]
   exact h
theorem kT (hb : 2 ≤ b)(h : n < b ^ k): (db b n).length ≤ k := by
  induction k generalizing n with
  | zero => have : n = 0 := by simp at h; omega
            subst this; simp [lG]
  | succ k ih =>
    by_cases h0 : n = 0
    · subst h0; simp [lG]
    · rw [lR hb h0, cO]
      have : n / b < b ^ k := by rw [k0 (by omega)]; rwa [← cB]
      have := ih this
      omega
theorem CR (hb:2≤b)(n:Nat):n<b^(db b n).length:=by
 have:=nX (kY hb n)
 rwa [iB hb] at this
theorem J2 (hb:2≤b)(h:n≠0):b^((db b n).length-1)≤n:=by
 refine pQ (fun hlt=>?_)
 have h1:=kT hb hlt
 have h2:(db b n).length≠0:=fun e=>h ((rS hb).1 e)
 omega
theorem CU (hb:2≤b)(h:x≤y):(db b x).length≤(db b y).length:=kT hb (iH h (CR hb y))
theorem DL {b:Nat}(hb:2≤b):∀{xs:List Nat}{m:Nat},Wfb b xs→m=(db b (nb b xs)).length→db b (nb b xs)=xs.take m
 | [],m,_,h=>by simp [nb,lG]
 | x::r,m,hw,h=>by
  have hx:x<b:=hw x (by simp)
  by_cases h0:nb b (x::r)=0
  ·rw [h0,lG] at h⊢
   subst h;rfl
  ·have hd:nb b (x::r)/b=nb b r:=by rw [lD,uD _ _ (by omega),gT hx,f9]
   have hm:nb b (x::r)%b=x:=by rw [lD,AN,fG hx]
   rw [lR hb h0,hd,hm] at h⊢
   obtain⟨k,rfl⟩:∃k,m=k+1:=⟨m-1,by rw [h,cO];rfl⟩
   rw [cO] at h
   rw [EG,←DL hb (fun y hy=>hw y (by simp [hy])) (by omega)]
theorem JX (hb:0<b)(hx:Wfb b xs)(hkx:k<xs.length)(hky:k<ys.length)(h:xs.getD k 0<ys.getD k 0):nb b (xs.take (k+1))<nb b (ys.take (k+1)):=by
 rw [iL b xs k hkx,iL b ys k hky]
 have h1:=rO hb hx k
 have h2:b^k*xs.getD k 0+b^k≤b^k*ys.getD k 0:=by
  have:=eF (b^k) (oH h)
  rwa [sJ] at this
 omega
theorem a0U (hkx:k<xs.length)(hky:k<ys.length)(h:xs.getD k 0=ys.getD k 0):
  dH (nb b (xs.take (k+1))) (nb b (ys.take (k+1)))=dH (nb b (xs.take k)) (nb b (ys.take k)):=by
 rw [iL b xs k hkx,iL b ys k hky,h]
 unfold dH
 simp only [O0,NZ]
theorem KD (hb:2≤b)(h:(db b x).length<(db b y).length):x<y:=by
 refine oI (fun hle=>?_)
 have:=CU hb hle
 omega
theorem WO (b:Nat)(xs:List Nat)(n:Nat):nb b (xs++bP n 0)=nb b xs:=by
 rw [rP,vK,iG,dN]
theorem FF (hw:Wf xs)(h:xs.length=0∨WB^(xs.length-1)≤nv xs):wd (nv xs)=xs:=by
 have h1:(wd (nv xs)).length=xs.length:=by
  have h2:=iM hw
  rcases h with h | h
  ·omega
  ·have h3:WB^(xs.length-1)<WB^(wd (nv xs)).length:=iH h (kS _)
   have:=(sI (by decide:1<WB)).1 h3
   omega
 rw [nQ hw h1.symm,List.take_length]
theorem K0 (b:Nat)(es:List Nat)(p m:Nat):nb b ((es.drop p).take (m+1))=es.getD p 0+b*nb b ((es.drop (p+1)).take m):=by
 by_cases h:p<es.length
 ·rw [m4 h,EG,lD,bC,cJ h];rfl
 ·rw [List.drop_eq_nil_of_le (by omega),List.drop_eq_nil_of_le (by omega),bC,kM (by omega)]
  simp [nb]
theorem JZ (b:Nat)(es:List Nat)(p m:Nat)(h:p≤es.length):nb b (es.take (p+m))=nb b (es.take p)+b^p*nb b ((es.drop p).take m):=by
 have e:es.take (p+m)=es.take p++(es.drop p).take m:=by rw [List.take_add]
 rw [e,rP,bJ,fT h]
theorem yR (h:i<k):(xs.take k).getD i 0=xs.getD i 0:=by
 simp only [bC,kJ,if_pos h]
theorem tK (h:i<l.length)(x:Nat):(l.set i x).getD i 0=x:=by simp [bC,h]
theorem getD_set_ne (h:i≠j)(x:Nat):(l.set i x).getD j 0=l.getD j 0:=by simp [bC,List.getElem?_set_ne h]
theorem qM (b:Nat)(h:i<l.length)(x:Nat):nb b ((l.set i x).take (i+1))=nb b (l.take i)+b^i*x:=by
 rw [iL b _ i (by rw [List.length_set];exact h),tK h,List.take_set_of_le (b8 i)]
theorem vM (b:Nat):∀{l:List Nat}{k:Nat},k<l.length→∀x,nb b (l.set k x)+b^k*l.getD k 0=nb b l+b^k*x
 | y::r,0,_,x=>by simp [nb];omega
 | y::r,k+1,h,x=>by
  have ih:=vM b (l:=r) (k:=k) (by simpa using h) x
  simp only [List.set_cons_succ,lD,List.getD_cons_succ,cB]
  have e:b*(nb b (r.set k x)+b^k*r.getD k 0)=b*(nb b r+b^k*x):=by rw [ih]
  simp only [cT,←bH,bY b (b^k)] at e
  omega
theorem nW (h:k<l.length)(x:Nat):nv (l.set k x)+WB^k*l.getD k 0=nv l+WB^k*x:=by
 rw [vI,vI];exact vM WB h x
theorem CD (h:i<l.length)(x:Nat):nv ((l.set i x).take (i+1))=nv (l.take i)+WB^i*x:=by
 rw [fB _ i (by rw [List.length_set];exact h),tK h,List.take_set_of_le (b8 i)]
def lK (ds:List Nat)(i t:Nat):Nat:=nb 65536 ((ds.drop (max i (4*t))).take (4*t+4-max i (4*t)))
theorem OP:lK ds j (j/4)=ds.getD j 0+65536*lK ds (j+1) (j/4):=by
 unfold lK
 have e1:max j (4*(j/4))=j:=by omega
 have e2:max (j+1) (4*(j/4))=j+1:=by omega
 rw [e1,e2,show 4*(j/4)+4-j=(4*(j/4)+4-(j+1))+1 from by omega,K0]
theorem OQ {t:Nat}(h:t≠j/4):lK ds j t=lK ds (j+1) t:=by
 unfold lK
 rcases jR t (j/4) with h1 | h1
 ·rw [show 4*t+4-max j (4*t)=0 from by omega,show 4*t+4-max (j+1) (4*t)=0 from by omega];simp
 ·rw [show max j (4*t)=max (j+1) (4*t) from by omega]
theorem ES (hw:Wfb 65536 ds)(i t:Nat):lK ds i t<WB:=by
 unfold lK
 have h1:=rO (by omega) (E3 hw (max i (4*t))) (4*t+4-max i (4*t))
 have h2:65536^(4*t+4-max i (4*t))≤65536^4:=dU (by omega) (by omega)
 have h3:WB=65536^4:=by decide
 omega
theorem OR (hl:∀t,t<l.length→l.getD t 0=lK ds 0 t)(hn:ds.length≤4*l.length)(hm:4*l.length<ds.length+4):nv l=nb 65536 ds:=by
 have key:∀t,t≤l.length→nv (l.take t)=nb 65536 (ds.take (4*t)):=by
  intro t
  induction t with
  | zero=>intro _;rfl
  | succ t ih=>
   intro ht
   rw [fB l t (by omega),ih (by omega),hl t (by omega),show 4*(t+1)=4*t+4 from by omega,JZ 65536 ds (4*t) 4 (by omega)]
   unfold lK
   rw [show max 0 (4*t)=4*t from by omega,show 4*t+4-4*t=4 from by omega,show WB=65536^4 from by decide,←Nat.pow_mul]
 have h:=key l.length (b8 _)
 rwa [List.take_length,List.take_of_length_le hn] at h
end
section
open Go.RowKit
theorem jE:(Tryz.prog.info? 65).map (fun i=>(i.zero,i.size,i.bytes))=some (some (.int .u64 0),1,8):=by kernel_rfl
theorem BO:(Tryz.prog.info? 65).map (·.size)=some 1:=by kernel_rfl
def jW (w:a6)(m:Nat)(e:fA)(w':a6):Prop:=
 ∃A n cap,e= .returned (.slice A n cap)∧Hid (n=(wd m).length)∧Rd w' A n cap (wd m)∧Own w' w.heap.size 65 1 A n cap ((wd m).map aW)∧Ext w w'
theorem tV {w w':a6}(hg:w.heap.size≤g)(hb:Bk w' g 65 (ys.map aW))(hl:ys.length=cap)(hn:n≤cap)(hc:cap≤maxLen)(hy:ys.take n=wd m)(hx:Ext w w'):
  jW w m (.returned (.slice (some ⟨g,0,none⟩) n cap)) w':=by
 have hlen:n=(wd m).length:=by rw [←hy,bJ];omega
 have ho:Own w' w.heap.size 65 1 (some ⟨g,0,none⟩) n cap ((wd m).map aW):=
  Own.mk_ hg hb hn hc (by simpa using hl) (by rw [cI,←k5,hy])
 exact⟨_,_,_,rfl,hlen,ho.rd (pN m),ho,hx⟩
theorem a1K {w w':a6}(hm:m=0)(hx:Ext w w'):jW w m (.returned (.slice none 0 0)) w':=by
 subst hm
 exact⟨none,0,0,rfl,rfl,Rd.nil w',Own.nil w' _ _ _,hx⟩
def a1I (xs:List Nat)(n:Nat)(w:a6)(e:fA)(w':a6):Prop:=
 ∃m:Nat,Hid (m=(wd (nv xs)).length)∧m≤n∧e= .returned (.int .i64 (m:Int))∧w=w'
theorem k9 {w:a6}(hx:Rd w A n cap xs)(hl:n≤1099511627776:=by omega):
  aO aF 182 #[.slice A n cap] w (a1I xs n w):=by
 have hlen:=Lib.hid hx.len
 go_enter Tryz.func182,Tryz.ntmps182
 go_wp2_with fail
 go_loop [3] (fun u=>∃k:Nat,k≤n∧u= .int .i64 (k:Int)∧nv (xs.take k)=nv xs) (fun u=>(intOf u).toNat)
 case atStart=>exact⟨n,b8 _,rfl,by rw [←hlen.out,List.take_length]⟩
 case round=>
  obtain⟨k,hk,rfl,hv⟩:=hrel
  have HV:=Lib.hid hv
  clear hv
  by_cases h0:0<k
  ·obtain⟨a,x,rfl,hxk,hxb,hc⟩:=hx.get (i:=k-1) (by omega)
   by_cases hz:x=0
   ·subst hz
    go_wp2_with fail
    go_round
    case rel=>
     refine⟨k-1,by omega,by congr 1;omega,?_⟩
     rw [←HV.out,←rN xs (k-1) (by rw [hlen.out];omega) hxk.out,jP h0]
    case measure=>simp [intOf];omega
   ·have hzb:((x:Int)==0)=false:=by simp;omega
    go_wp2_with fail
    go_ret
    refine⟨k,?_,hk,rfl,rfl⟩
    have:=uL (k:=k) hx.wf (by rw [hlen.out];exact hk) HV.out (bR (by rw [hxk.out];exact hz))
    show k=_
    rw [this,bJ,hlen.out];omega
  ·go_wp2_with fail
   go_ret
   refine⟨k,?_,hk,rfl,rfl⟩
   have:=uL (k:=k) hx.wf (by rw [hlen.out];exact hk) HV.out (cE (by omega))
   show k=_
   rw [this,bJ,hlen.out];omega
theorem WP {w:a6}(hx:Rd w A n cap xs)(hl:n≤1099511627776):
  aO aF 193 #[.slice A n cap] w (jW w (nv xs)):=by
 have hlen:=Lib.hid hx.len
 go_enter Tryz.func193,Tryz.ntmps193
 go_wp2_with fail
 refine (k9 hx (hl:=hl)).mono ?_
 rintro e w' ⟨m,hm,hmn,rfl,rfl⟩
 have hmk:=lM (P:=aF) Tryz.underlying22 jE rfl (by decide) (m:Int) (by omega) (by omega)
 simp only [gV] at hmk
 go_wp2_with ((with_reducible refine dZ (some 11) ?_);refine wW rfl (.tmp 9) (.tmp 10) 22 22 rfl rfl rfl Tryz.underlying22 BO (Bk.new' _ _ _) (hx.rv.ext ((Ext.refl _).alloc _)) (fun _=>rfl) ?fit (E6 xs) ?_;rotate_left;intro w1 hb1 hu1)
 case fit=>simp [wT]
 go_ret
 have e:wd (nv xs)=xs.take m:=by
  have h1:=hx.wf
  have h2:m≤xs.length:=by rw [hlen.out];exact hmn
  exact nQ h1 hm.out
 refine tV (g:=w.heap.size) (ys:=xs.take m) (b8 _) ?_ ?_ (b8 _) (by rw [eY];omega) ?_ (hu1.ext ((Ext.refl w).alloc _) (b8 _))
 ·have h:=hb1
  rw [wT,kR,←k5,BL,QX _ _ (by rw [List.length_replicate,bJ,hlen.out];omega)] at h
  exact h
 ·rw [bJ,hlen.out];omega
 ·rw [List.take_take,Nat.min_self,e]
theorem mW {w:a6}(hx:Rd w A n cap xs)(hl:n≤1099511627776:=by omega):
  aO aF 141 #[.slice A n cap] w (jW w (nv xs)):=by
 go_enter Tryz.func141,Tryz.ntmps141
 go_wp2_with fail
 refine (WP hx hl).mono ?_
 rintro e w' ⟨A1,n1,c1,rfl,h⟩
 go_wp2_with fail
 go_ret
 exact⟨A1,n1,c1,rfl,h⟩
def wJ (a b:Nat)(w:a6)(e:fA)(w':a6):Prop:=
 ∃c:Int,Hid (c=dH a b)∧ -1≤c∧c≤1∧e= .returned (.int .i64 c)∧Ext w w'
theorem oF {a:Nat}{w w':a6}{c:Int}(h:dH a b=c)(hx:Ext w w'):wJ a b w (.returned (.int .i64 c)) w':=by
 subst h
 exact⟨_,rfl,(MK a b).1,(MK a b).2,rfl,hx⟩
theorem vN {w:a6}(hx:Rd w A n cap xs)(hy:Rd w B n' cap' ys)(hl:n≤1099511627776:=by omega)(hl':n'≤1099511627776:=by omega):
  aO aF 144 #[.slice A n cap,.slice B n' cap'] w (wJ (nv xs) (nv ys) w):=by
 have hlx:=Lib.hid hx.len
 have hly:=Lib.hid hy.len
 go_enter Tryz.func144,Tryz.ntmps144
 go_wp2_with fail
 refine (k9 hx (hl:=hl)).mono ?_
 rintro e w' ⟨m,hm,hmn,rfl,rfl⟩
 go_wp2_with fail
 refine (k9 hy (hl:=hl')).mono ?_
 rintro e w' ⟨k,hk,hkn,rfl,rfl⟩
 rcases Nat.lt_trichotomy m k with hlt | rfl | hgt
 ·have h1:((m:Int) != (k:Int))=true:=by simp;omega
  go_wp2_with fail
  go_ret
  exact oF (zP (KC (by rw [←hm.out,←hk.out];exact hlt))) (Ext.refl w)
 ·have h1:((m:Int) != (m:Int))=false:=by simp
  go_wp2_with fail
  go_loopw [7] (fun u wr=>∃i:Nat,i≤m∧u= .int .i64 ((i:Int)-1)∧Hid (dH (nv (xs.take i)) (nv (ys.take i))=dH (nv xs) (nv ys))∧Ext w wr) (fun u wr=>(intOf u+1).toNat)
  case atStart=>exact⟨m,b8 _,rfl,(show _=_ by rw [oY hx.wf hm.out,oY hy.wf hk.out]),Ext.refl w⟩
  case round=>
   obtain⟨i,hi,rfl,hv,hext⟩:=hrel
   by_cases h0:0<i
   ·obtain⟨a,x,rfl,hxk,hxb,hc⟩:=(hx.ext hext).get (i:=i-1) (by omega)
    obtain⟨b,y,rfl,hyk,hyb,hd⟩:=(hy.ext hext).get (i:=i-1) (by omega)
    have hi':i-1+1=i:=by omega
    have hcast:((i-1:Nat):Int)=(i:Int)-1:=by omega
    have b1:(0:Int)≤(i:Int)-1:=by omega
    rcases Nat.lt_trichotomy x y with hlt | rfl | hgt
    ·go_wp2_with fail
     go_quiet (fail)
     go_wp2_with fail
     go_ret
     refine oF ?_ (by repeat (first | exact Ext.refl _ | assumption | apply Ext.drewN | apply Ext.drew | apply Ext.alloc))
     rw [←hv.out,←hi']
     exact zP (JF hx.wf (by rw [hlx.out];omega) (by rw [hly.out];omega) (by rw [hxk.out,hyk.out];exact hlt))
    ·go_wp2_with fail
     go_quiet (fail)
     go_wp2_with fail
     go_quiet (fail)
     go_wp2_with fail
     go_roundw
     case rel=>
      refine⟨i-1,by omega,by congr 1;omega,?_,(by repeat (first | exact Ext.refl _ | assumption | apply Ext.drewN | apply Ext.drew | apply Ext.alloc))⟩
      show _=_
      rw [←hv.out,←a0V (k:=i-1) (by rw [hlx.out];omega) (by rw [hly.out];omega) (by rw [hxk.out,hyk.out]),hi']
     case measure=>simp [intOf];omega
    ·go_wp2_with fail
     go_quiet (fail)
     go_wp2_with fail
     go_quiet (fail)
     go_wp2_with fail
     go_ret
     refine oF ?_ (by repeat (first | exact Ext.refl _ | assumption | apply Ext.drewN | apply Ext.drew | apply Ext.alloc))
     rw [←hv.out,←hi']
     exact wB (JF hy.wf (by rw [hly.out];omega) (by rw [hlx.out];omega) (by rw [hxk.out,hyk.out];exact hgt))
   ·go_wp2_with fail
    go_ret
    refine oF ?_ hext
    rw [←hv.out,show i=0 from by omega]
    simp [MJ]
 ·have h1:((m:Int) != (k:Int))=true:=by simp;omega
  go_wp2_with fail
  go_ret
  exact oF (wB (KC (by rw [←hm.out,←hk.out];exact hgt))) (Ext.refl w)
theorem NE {c:Nat}(hli:i<l.length)(hxi:i<xs.length)(hmy:m≤ys.length)(h:nv (l.take i)+WB^i*c=nv (xs.take i)+nv (ys.take (min i m)))(hx:xs.getD i 0=x)(hy:(if i<m then ys.getD i 0 else 0)=y)(hs:s+WB*d=x+y+c):
  nv ((l.set i s).take (i+1))+WB^(i+1)*d=nv (xs.take (i+1))+nv (ys.take (min (i+1) m)):=by
 have e1:(l.set i s).getD i 0=s:=by simp [bC,hli]
 have e2:(l.set i s).take i=l.take i:=by rw [List.take_set_of_le (b8 i)]
 rw [fB _ i (by rw [List.length_set];exact hli),e1,e2,fB xs i hxi,hx]
 have e3:nv (ys.take (min (i+1) m))=nv (ys.take (min i m))+WB^i*y:=by
  by_cases him:i<m
  ·rw [if_pos him] at hy
   rw [fT (by omega),fT (by omega),fB ys i (by omega),hy]
  ·rw [if_neg him] at hy
   rw [Nat.min_eq_right (by omega),Nat.min_eq_right (by omega),←hy,iG,dN]
 rw [e3,cB,bH]
 have e4:WB^i*(s+WB*d)=WB^i*(x+y+c):=by rw [hs]
 simp only [cT] at e4
 omega
def a1O (w:a6)(S:Nat)(u v:aH)(wc:a6):Prop:=
 ∃A n cap xs B n' cap' ys,u= .slice A n cap∧v= .slice B n' cap'∧Rd wc A n cap xs∧Rd wc B n' cap' ys∧n≤1099511627775∧n'≤1099511627775∧Hid (nv xs+nv ys=S)∧(wd (nv ys)).length≤(wd (nv xs)).length∧Ext w wc
theorem CL {w:a6}(hx:Rd w A n cap xs)(hl:n≤1099511627775)(hy:Rd w B n' cap' ys)(hl':n'≤1099511627775):
  aO aF 145 #[.slice A n cap,.slice B n' cap'] w (jW w (nv xs+nv ys)):=by
 go_enter Tryz.func145,Tryz.ntmps145
 go_upto_if 15 with (fail)
 refine (k9 hx).mono ?_
 rintro e w' ⟨m,hm,hmn,rfl,rfl⟩
 go_upto_if 15 with (fail)
 refine (k9 hy).mono ?_
 rintro e w' ⟨k,hk,hkn,rfl,rfl⟩
 go_upto_if 15 with (fail)
 go_cut [0,1] (fun u v wc=>a1O w (nv xs+nv ys) u v wc)
 case first=>
  by_cases hlt:m<k
  ·go_wp2_with fail
   go_meet
   case rel=>exact⟨B,n',cap',ys,A,n,cap,xs,rfl,rfl,hy,hx,hl',hl,Nat.add_comm _ _,by rw [←hm.out,←hk.out];omega,Ext.refl w⟩
  ·go_wp2_with fail
   go_meet
   case rel=>exact⟨A,n,cap,xs,B,n',cap',ys,rfl,rfl,hx,hy,hl,hl',rfl,by rw [←hm.out,←hk.out];omega,Ext.refl w⟩
 case rest=>
  clear hm hk hmn hkn hx hy hl hl'
  obtain⟨A,n,cap,xs,B,n',cap',ys,rfl,rfl,hx,hy,hl,hl',hS,hle,hext⟩:=hcut
  go_wp2_with fail
  refine (k9 hx).mono ?_
  rintro e w' ⟨m,hm,hmn,rfl,rfl⟩
  go_wp2_with fail
  refine (k9 hy).mono ?_
  rintro e w' ⟨k,hk,hkn,rfl,rfl⟩
  have hkm:k≤m:=by rw [hm.out,hk.out];exact hle
  have hlx:=Lib.hid hx.len
  have hly:=Lib.hid hy.len
  have hmk:=lM (P:=aF) Tryz.underlying22 jE rfl (by decide) ((m:Int)+1) (by omega) (by omega)
  have et:((m:Int)+1).toNat=m+1:=by omega
  rw [et] at hmk
  clear et
  go_wp2_with fail
  clear hmk
  obtain⟨g,hg⟩:∃g,wc.heap.size=g:=⟨_,rfl⟩
  rw [hg]
  obtain⟨wa,hwa⟩:∃wa,wc.alloc (.cells (zc (.int .u64 0) (m+1)) 65)=wa:=⟨_,rfl⟩
  rw [hwa]
  have hbk:Bk wa g 65 ((bP (m+1) 0).map aW):=by
   rw [←hwa,←hg,←kR];exact Bk.new' _ _ _
  have hea:Ext wc wa:=by rw [←hwa];exact (Ext.refl wc).alloc _
  have hgs:w.heap.size≤g:=by rw [←hg];exact hext.size
  have hgc:wc.heap.size≤g:=by rw [hg];exact b8 _
  clear hg hwa
  go_loopw [26,8] (fun u v wr=>∃(i c:Nat) (l:List Nat),i≤m∧c≤1∧u= .int .i64 (i:Int)∧v= .int .u64 (c:Int)∧Hid (l.length=m+1)∧Wf l∧Bk wr g 65 (l.map aW)∧
   Hid (nv (l.take i)+WB^i*c=nv (xs.take i)+nv (ys.take (min i k)))∧Ext wc wr) (fun u v wr=>m-(intOf u).toNat)
  case atStart=>exact⟨0,0,_,bW _,bW _,rfl,rfl,List.length_replicate,pM _,hbk,by simp [Hid,nv],hea⟩
  case round=>
   obtain⟨i,c,l,hi,hc,rfl,rfl,hll,hwl,hb,hv,hr⟩:=hrel
   clear hbk hea
   by_cases him:i<m
   ·obtain⟨a,x,rfl,hxk,hxb,hcx⟩:=(hx.ext hr).get (i:=i) (by omega)
    obtain⟨o,ho,_,hco⟩:=hb.word hwl (i:=i) (by rw [hll.out];omega)
    have hfr:=hb.frozen i
    by_cases hik:i<k
    ·obtain⟨b,y,rfl,hyk,hyb,hcy⟩:=(hy.ext hr).get (i:=i) (by omega)
     go_wp2_with ((with_reducible refine dZ (some 45) ?_);refine EZ rfl (.tmp 42) (.tmp 43) (.tmp 44) rfl x y c rfl rfl rfl hc hxb hyb ?_;intro s d hs hsb hd)
     go_roundw
     case rel=>exact⟨i+1,d,_,by omega,hd,by go_num,rfl,by show _=_;rw [List.length_set];exact hll.out,gS hwl i (by rw [cF];omega),by rw [←eG];exact hb.set i _,
      NE (by rw [hll.out];omega) (by rw [hlx.out];omega) (by rw [hly.out];omega) hv.out hxk.out (by rw [if_pos hik];exact hyk.out) hs.out,hr.setCell hgc _⟩
     case measure=>simp [intOf];omega
    ·go_wp2_with ((with_reducible refine dZ (some 45) ?_);refine EZ rfl (.tmp 42) (.tmp 43) (.tmp 44) rfl x 0 c rfl rfl rfl hc hxb (by omega) ?_;intro s d hs hsb hd)
     go_roundw
     case rel=>exact⟨i+1,d,_,by omega,hd,by go_num,rfl,by show _=_;rw [List.length_set];exact hll.out,gS hwl i (by rw [cF];omega),by rw [←eG];exact hb.set i _,
      NE (by rw [hll.out];omega) (by rw [hlx.out];omega) (by rw [hly.out];omega) hv.out hxk.out (by rw [if_neg hik]) hs.out,hr.setCell hgc _⟩
     case measure=>simp [intOf];omega
   ·obtain rfl:i=m:=by omega
    obtain⟨o,ho,_,hco⟩:=hb.word hwl (i:=i) (by rw [hll.out];omega)
    have hfr:=hb.frozen i
    have hb2:=hb.set i (.int .u64 (c:Int))
    rw [eG] at hb2
    have hll2:Hid ((l.set i c).length=i+1):=by show _=_;rw [List.length_set];exact hll.out
    have hwl2:Wf (l.set i c):=gS hwl i (by rw [cF];omega)
    have hr2:Rd (wr.setCell ⟨g,i,none⟩ (.int .u64 (c:Int))) (some ⟨g,0,none⟩) (i+1) (i+1) (l.set i c):=by
     have:=hb2.rd hwl2 (o:=0) (n:=i+1) (cap:=i+1) (b8 _) (by rw [hll2.out];omega) (by rw [eY];omega)
     rwa [gU,List.take_of_length_le (by rw [hll2.out];omega)] at this
    have hval:Hid (nv (l.set i c)=nv xs+nv ys):=by
     show _=_
     have e1:(l.set i c).getD i 0=c:=by
      have:=hll.out
      simp [bC,this]
     have e2:(l.set i c).take i=l.take i:=by rw [List.take_set_of_le (b8 i)]
     have e3:=fB (l.set i c) i (by rw [hll2.out];omega)
     rw [e1,e2,List.take_of_length_le (by rw [hll2.out];omega),hv.out,Nat.min_eq_right hkm] at e3
     rw [e3,oY hx.wf hm.out,oY hy.wf hk.out]
    go_wp2_with fail
    refine (k9 hr2).mono ?_
    rintro e w' ⟨q,hq,hqn,rfl,rfl⟩
    go_wp2_with fail
    go_ret
    rw [←hS.out,←hval.out]
    exact tV (ys:=l.set i c) hgs hb2 hll2.out hqn (by rw [eY];omega) (nQ hwl2 hq.out).symm ((hext.trans hr).setCell hgs _)
def E9 (w:a6)(m:Nat)(er:Int)(e:fA)(w':a6):Prop:=
 ∃A n cap,e= .returned (.tuple #[.slice A n cap,.int .i64 er])∧Hid (n=(wd m).length)∧Rd w' A n cap (wd m)∧Own w' w.heap.size 65 1 A n cap ((wd m).map aW)∧Ext w w'
theorem E8 {w w':a6}(h:jW w m (.returned (.slice A n cap)) w'):E9 w m er (.returned (.tuple #[.slice A n cap,.int .i64 er])) w':=by
 obtain⟨A',n',c',he,r⟩:=h
 cases he
 exact⟨_,_,_,rfl,r⟩
theorem G7 {c:Nat}(hli:i<l.length)(hxi:i<xs.length)(hmy:m≤ys.length)(h:nv (l.take i)+nv (ys.take (min i m))=nv (xs.take i)+WB^i*c)(hx:xs.getD i 0=x)(hy:(if i<m then ys.getD i 0 else 0)=y)(hs:s+y+c=x+WB*d):
  nv ((l.set i s).take (i+1))+nv (ys.take (min (i+1) m))=nv (xs.take (i+1))+WB^(i+1)*d:=by
 have e1:(l.set i s).getD i 0=s:=by simp [bC,hli]
 have e2:(l.set i s).take i=l.take i:=by rw [List.take_set_of_le (b8 i)]
 rw [fB _ i (by rw [List.length_set];exact hli),e1,e2,fB xs i hxi,hx]
 have e3:nv (ys.take (min (i+1) m))=nv (ys.take (min i m))+WB^i*y:=by
  by_cases him:i<m
  ·rw [if_pos him] at hy
   rw [fT (by omega),fT (by omega),fB ys i (by omega),hy]
  ·rw [if_neg him] at hy
   rw [Nat.min_eq_right (by omega),Nat.min_eq_right (by omega),←hy,iG,dN]
 rw [e3,cB,bH]
 have e4:WB^i*(s+y+c)=WB^i*(x+WB*d):=by rw [hs]
 simp only [cT] at e4
 omega
theorem K3 {w:a6}(hx:Rd w A n cap xs)(hl:n≤1099511627775)(hy:Rd w B n' cap' ys)(hl':n'≤1099511627775)(hle:nv ys≤nv xs):
  aO aF 146 #[.slice A n cap,.slice B n' cap'] w (E9 w (nv xs-nv ys) 0):=by
 go_enter Tryz.func146,Tryz.ntmps146
 go_wp2_with fail
 refine (vN hx hy).mono ?_
 rintro e wc ⟨c,hc,hc1,hc2,rfl,hx1⟩
 have hneg:¬c<0:=by rw [hc.out,pH];omega
 go_wp2_with fail
 refine (k9 (hx.ext hx1)).mono ?_
 rintro e w' ⟨m,hm,hmn,rfl,rfl⟩
 go_wp2_with fail
 refine (k9 (hy.ext hx1)).mono ?_
 rintro e w' ⟨k,hk,hkn,rfl,rfl⟩
 have hkm:k≤m:=by rw [hm.out,hk.out];exact gZ hle
 have hlx:=Lib.hid hx.len
 have hly:=Lib.hid hy.len
 have hmk:=lM (P:=aF) Tryz.underlying22 jE rfl (by decide) (m:Int) (by omega) (by omega)
 rw [gV] at hmk
 go_wp2_with fail
 clear hmk
 obtain⟨g,hg⟩:∃g,wc.heap.size=g:=⟨_,rfl⟩
 rw [hg]
 obtain⟨wa,hwa⟩:∃wa,wc.alloc (.cells (zc (.int .u64 0) m) 65)=wa:=⟨_,rfl⟩
 rw [hwa]
 have hbk:Bk wa g 65 ((bP m 0).map aW):=by
  rw [←hwa,←hg,←kR];exact Bk.new' _ _ _
 have hea:Ext wc wa:=by rw [←hwa];exact (Ext.refl wc).alloc _
 have hgs:w.heap.size≤g:=by rw [←hg];exact hx1.size
 have hgc:wc.heap.size≤g:=by rw [hg];exact b8 _
 clear hg hwa hc hneg hc1 hc2
 go_loopw [23,9] (fun u v wr=>∃(i c:Nat) (l:List Nat),i≤m∧c≤1∧u= .int .i64 (i:Int)∧v= .int .u64 (c:Int)∧Hid (l.length=m)∧Wf l∧Bk wr g 65 (l.map aW)∧
  Hid (nv (l.take i)+nv (ys.take (min i k))=nv (xs.take i)+WB^i*c)∧Ext wc wr) (fun u v wr=>m-(intOf u).toNat)
 case atStart=>exact⟨0,0,_,bW _,bW _,rfl,rfl,List.length_replicate,pM _,hbk,by simp [Hid,nv],hea⟩
 case round=>
  obtain⟨i,c,l,hi,hc,rfl,rfl,hll,hwl,hb,hv,hr⟩:=hrel
  clear hbk hea
  by_cases him:i<m
  ·obtain⟨a,x,rfl,hxk,hxb,hcx⟩:=((hx.ext hx1).ext hr).get (i:=i) (by omega)
   obtain⟨o,ho,_,hco⟩:=hb.word hwl (i:=i) (by rw [hll.out];omega)
   have hfr:=hb.frozen i
   by_cases hik:i<k
   ·obtain⟨b,y,rfl,hyk,hyb,hcy⟩:=((hy.ext hx1).ext hr).get (i:=i) (by omega)
    go_wp2_with ((with_reducible refine dZ (some 42) ?_);refine EW rfl (.tmp 39) (.tmp 40) (.tmp 41) rfl x y c rfl rfl rfl hc hxb hyb ?_;intro s d hs hsb hd)
    go_roundw
    case rel=>exact⟨i+1,d,_,by omega,hd,by go_num,rfl,by show _=_;rw [List.length_set];exact hll.out,gS hwl i (by rw [cF];omega),by rw [←eG];exact hb.set i _,
     G7 (by rw [hll.out];omega) (by rw [hlx.out];omega) (by rw [hly.out];omega) hv.out hxk.out (by rw [if_pos hik];exact hyk.out) hs.out,hr.setCell hgc _⟩
    case measure=>simp [intOf];omega
   ·go_wp2_with ((with_reducible refine dZ (some 42) ?_);refine EW rfl (.tmp 39) (.tmp 40) (.tmp 41) rfl x 0 c rfl rfl rfl hc hxb (by omega) ?_;intro s d hs hsb hd)
    go_roundw
    case rel=>exact⟨i+1,d,_,by omega,hd,by go_num,rfl,by show _=_;rw [List.length_set];exact hll.out,gS hwl i (by rw [cF];omega),by rw [←eG];exact hb.set i _,
     G7 (by rw [hll.out];omega) (by rw [hlx.out];omega) (by rw [hly.out];omega) hv.out hxk.out (by rw [if_neg hik]) hs.out,hr.setCell hgc _⟩
    case measure=>simp [intOf];omega
  ·obtain rfl:i=m:=by omega
   have hr2:Rd wr (some ⟨g,0,none⟩) i i l:=by
    have:=hb.rd hwl (o:=0) (n:=i) (cap:=i) (b8 _) (by rw [hll.out];omega) (by rw [eY];omega)
    rwa [gU,List.take_of_length_le (by rw [hll.out];omega)] at this
   have hval:Hid (nv l=nv xs-nv ys):=by
    show _=_
    have e:=hv.out
    rw [Nat.min_eq_right hkm,oY hx.wf hm.out,oY hy.wf hk.out,List.take_of_length_le (by rw [hll.out];omega)] at e
    have hlt:nv l<WB^i:=by have:=jM hwl;rwa [hll.out] at this
    by_cases h0:c=0
    ·rw [h0,iG] at e;omega
    ·have hc1:c=1:=by omega
     rw [hc1,cI] at e;omega
   go_wp2_with fail
   refine (k9 hr2).mono ?_
   rintro e w' ⟨q,hq,hqn,rfl,rfl⟩
   go_wp2_with fail
   go_ret2
   rw [←hval.out]
   exact E8 (tV (ys:=l) hgs hb hll.out hqn (by rw [eY];omega) (nQ hwl hq.out).symm (hx1.trans hr))
theorem a1j (hw:Wf xs)(hm:m=(wd (nv xs)).length)(h0:0<m)(hx:xs.getD (m-1) 0=x):x≠0∧64*(m-1)+bA x=bA (nv xs):=by
 have e:=nQ hw hm
 have hne:nv xs≠0:=fun h=>by rw [h,pX] at hm;simp at hm;omega
 have hml:m≤xs.length:=by rw [hm];exact iM hw
 have e2:nv xs=nv (xs.take (m-1))+WB^(m-1)*x:=by
  rw [←oY hw hm,←hx,←fB xs (m-1) (by omega),jP h0]
 have hlt:=m9 hw (m-1)
 have hx0:x≠0:=by
  rintro rfl
  have h1:=J1 hne
  rw [←hm] at h1
  rw [iG] at e2
  omega
 refine⟨hx0,(rY ?_ (bR ?_)).symm⟩
 ·have h1:=jV x
  rw [bX,Nat.pow_mul,←lY]
  have h2:WB^(m-1)*x+WB^(m-1)≤WB^(m-1)*2^bA x:=by
   have:=eF (WB^(m-1)) (oH h1)
   rwa [sJ] at this
  omega
 ·have h1:=lH hx0
  have hb:bA x≠0:=fun h=>hx0 (kD.1 h)
  rw [Nat.add_sub_assoc (by omega),bX,Nat.pow_mul,←lY]
  have:=eF (WB^(m-1)) h1
  omega
def NS (k:Nat)(w:a6)(e:fA)(w':a6):Prop:=∃n:Nat,Hid (n=k)∧e= .returned (.int .i64 (n:Int))∧Ext w w'
theorem CK {w:a6}(hx:Rd w A n cap xs)(hl:n≤1099511627775):
  aO aF 142 #[.slice A n cap] w (NS (bA (nv xs)) w):=by
 go_enter Tryz.func142,Tryz.ntmps142
 go_wp2_with fail
 refine (k9 hx).mono ?_
 rintro e w' ⟨m,hm,hmn,rfl,rfl⟩
 by_cases h0:0<m
 ·obtain⟨a,x,rfl,hxk,hxb,hcx⟩:=hx.get (i:=m-1) (by omega)
  have hb:=Lib.hid (a1j hx.wf hm.out h0 hxk.out)
  have b0:((m:Int)==0)=false:=by simp;omega
  go_wp2_with fail
  refine (bits_Len64 x hxb _).mono ?_
  rintro e w' ⟨q,hq,hq64,rfl,rfl⟩
  go_wp2_with fail
  go_ret
  refine⟨64*(m-1)+q,?_,?_,Ext.refl w⟩
  ·show _=_
   rw [hq.out];exact hb.out.2
  ·exact T5 (by omega)
 ·obtain rfl:m=0:=by omega
  go_wp2_with fail
  go_ret
  refine⟨0,?_,rfl,Ext.refl w⟩
  show _=_
  rw [(jN.1 hm.out.symm),kV]
def NK (A:Option aC)(xs:List Nat)(w:a6)(e:fA)(w':a6):Prop:=
 ∃k:Nat,Hid (k=(wd (nv xs)).length)∧e= .returned (.slice A k k)∧Rd w A k k (wd (nv xs))∧w=w'
theorem tG {w:a6}(hx:Rd w A n cap xs)(hl:n≤1099511627776:=by omega):
  aO aF 223 #[.slice A n cap] w (NK A xs w):=by
 have hlen:=Lib.hid hx.len
 have hcap:=hx.rv.le
 have hmax:=hx.rv.max
 rw [eY] at hmax
 have fin:∀k,k≤n→k=(wd (nv xs)).length→NK A xs w (.returned (.slice A k k)) w:=by
  intro k hk h
  have h2:=hx.take hk (b8 _) (by omega)
  rw [←nQ hx.wf h] at h2
  exact⟨k,h,rfl,h2,rfl⟩
 have FIN:=Lib.hid fin
 clear fin
 go_enter Tryz.func223,Tryz.ntmps223
 go_wp2_with fail
 go_loop [3] (fun u=>∃k:Nat,k≤n∧u= .int .i64 (k:Int)∧Hid (nv (xs.take k)=nv xs)) (fun u=>(intOf u).toNat)
 case atStart=>exact⟨n,b8 _,rfl,(show _=_ by rw [←hlen.out,List.take_length])⟩
 case round=>
  obtain⟨k,hk,rfl,HV⟩:=hrel
  by_cases h0:0<k
  ·obtain⟨a,x,rfl,hxk,hxb,hc⟩:=hx.get (i:=k-1) (by omega)
   by_cases hz:x=0
   ·subst hz
    go_wp2_with fail
    go_round
    case rel=>
     refine⟨k-1,by omega,fW,?_⟩
     show _=_
     rw [←HV.out,←rN xs (k-1) (by rw [hlen.out];omega) hxk.out,jP h0]
    case measure=>simp [intOf];omega
   ·have hzb:((x:Int)==0)=false:=by simp;omega
    have hk0:¬k=0:=by omega
    go_wp2_with fail
    go_ret
    have:=uL (k:=k) hx.wf (by rw [hlen.out];exact hk) HV.out (bR (by rw [hxk.out];exact hz))
    exact FIN.out k hk (by rw [this,bJ,hlen.out];omega)
  ·obtain rfl:k=0:=by omega
   go_wp2_with fail
   go_ret
   have:=uL (k:=0) hx.wf (bW _) HV.out (cE rfl)
   exact FIN.out 0 hk (by rw [this,bJ,hlen.out];omega)
def tX (g:Nat)(zs:List Nat)(v:Nat)(w:a6)(e:fA)(w':a6):Prop:=
 ∃zs',e= .returned (.tuple #[])∧Bk w' g 65 (zs'.map aW)∧Wf zs'∧Hid (zs'.length=zs.length)∧Hid (nv zs'=v)∧Upd g w w'
theorem ND {o c z:Nat}(hi:o+i<l.length)(h:nv l+WB^(o+i)*c=V+WB^o*nv (ys.take i))(hz:l.getD (o+i) 0=z)(hy:i<ys.length)(hyk:ys.getD i 0=y)(hs:s+WB*d=z+y+c):nv (l.set (o+i) s)+WB^(o+i+1)*d=V+WB^o*nv (ys.take (i+1)):=by
 have e1:=nW hi s
 rw [hz] at e1
 rw [fB ys i hy,hyk,cT,←bH (WB^o),←bX,cB,bH]
 have e2:WB^(o+i)*(s+WB*d)=WB^(o+i)*(z+y+c):=by rw [hs]
 simp only [cT] at e2
 omega
theorem NC {c z:Nat}(hi:k<l.length)(h:nv l+WB^k*c=V)(hz:l.getD k 0=z)(hs:s+WB*d=z+c):nv (l.set k s)+WB^(k+1)*d=V:=by
 have e1:=nW hi s
 rw [hz] at e1
 rw [cB,bH]
 have e2:WB^k*(s+WB*d)=WB^k*(z+c):=by rw [hs]
 simp only [cT] at e2
 omega
theorem yM {w:a6}{o:Nat}(hz:Bk w g 65 (zs.map aW))(hwz:Wf zs)(hzl:zs.length=o+n)(hy:Rd w B m cap' ys)(hne:∀a,B=some a→0<m→a.block≠g)(hmn:m≤n)(hn:n≤1099511627776)(_ho:o≤1099511627776)(hv:nv zs+WB^o*nv ys<WB^(o+n)):
  aO aF 225 #[.slice (some ⟨g,o,none⟩) n cap,.slice B m cap'] w (tX g zs (nv zs+WB^o*nv ys) w):=by
 have hly:=Lib.hid hy.len
 have hlz:=Lib.hid hzl
 have HV:=Lib.hid hv
 clear hzl hv
 go_enter Tryz.func225,Tryz.ntmps225
 go_wp2_with fail
 go_loopw [9,4] (fun u v wr=>∃(i c:Nat) (l:List Nat),i≤m∧c≤1∧u= .int .i64 (i:Int)∧v= .int .u64 (c:Int)∧Hid (l.length=o+n)∧Wf l∧Bk wr g 65 (l.map aW)∧
  Hid (nv l+WB^(o+i)*c=nv zs+WB^o*nv (ys.take i))∧Upd g w wr) (fun u v wr=>m-(intOf u).toNat)
 case atStart=>exact⟨0,0,zs,bW _,bW _,rfl,rfl,hlz.out,hwz,hz,by simp [Hid,nv],Upd.refl _ _⟩
 case round=>
  obtain⟨i,c,l,hi,hc,rfl,rfl,hll,hwl,hb,hv,hr⟩:=hrel
  by_cases him:i<m
  ·obtain⟨a,y,rfl,hyk,hyb,hcy⟩:=(hy.upd hr (fun a ha=>hne a ha (by omega))).get (i:=i) (by omega)
   obtain⟨z,hzk,hzb,hcz⟩:=hb.word hwl (i:=o+i) (by rw [hll.out];omega)
   have hfr:=hb.frozen (o+i)
   obtain⟨s,d,hs,hsb,hd,hadd⟩:=zZ hc hzb hyb
   go_wp2_with fail
   go_region
   go_wp2_with fail
   go_roundw
   case rel=>exact⟨i+1,d,l.set (o+i) s,by omega,hd,by go_num,rfl,by show _=_;rw [List.length_set];exact hll.out,gS hwl _ (by rw [cF];omega),by rw [←eG];exact (hb.set _ _).drew,
    ND (by rw [hll.out];omega) hv.out hzk.out (by rw [hly.out];omega) hyk.out hs.out,(hr.setCell _ _).drew⟩
   case measure=>simp [intOf];omega
  ·obtain rfl:i=m:=by omega
   have hv1:Hid (nv l+WB^(o+i)*c=nv zs+WB^o*nv ys):=by
    show _=_
    rw [hv.out,List.take_of_length_le (by rw [hly.out];omega)]
   clear hv
   go_wp2_with fail
   obtain⟨wo,rfl⟩:∃wo:a6,wo=wr:=⟨_,rfl⟩
   go_loopw [6,4] (fun u v wr=>∃(j c:Nat) (l:List Nat),i≤j∧j≤n∧c≤1∧u= .int .i64 (j:Int)∧v= .int .u64 (c:Int)∧Hid (l.length=o+n)∧Wf l∧Bk wr g 65 (l.map aW)∧
    Hid (nv l+WB^(o+j)*c=nv zs+WB^o*nv ys)∧Upd g w wr) (fun u v wr=>n-(intOf u).toNat)
   case atStart=>exact⟨i,c,l,b8 _,hmn,hc,rfl,rfl,hll.out,hwl,hb,hv1.out,hr⟩
   case round=>
    obtain⟨j,c2,l2,hij,hjn,hc2,rfl,rfl,hl2,hw2,hb2,hv2,hr2⟩:=hrel
    clear hll hwl hb hv1 hr
    by_cases hc0:c2=0
    ·subst hc0
     have b0:((0:Int) != 0)=false:=rfl
     go_wp2_with fail
     go_end0
     have h:=hv2.out
     rw [iG,dN] at h
     exact⟨l2,rfl,hb2,hw2,(show _=_ by rw [hl2.out,hlz.out]),h,hr2⟩
    ·obtain rfl:c2=1:=by omega
     have hjn':j<n:=by
      refine oI (fun hle=>?_)
      obtain rfl:j=n:=by omega
      have h:=hv2.out
      have:=HV.out
      rw [cI] at h
      omega
     obtain⟨z,hzk,hzb,hcz⟩:=hb2.word hw2 (i:=o+j) (by rw [hl2.out];omega)
     have hfr:=hb2.frozen (o+j)
     obtain⟨s,d,hs,hsb,hd,hadd⟩:=a1B hzb
     have b1:((1:Int) != 0)=true:=rfl
     go_wp2_with fail
     go_roundw
     case rel=>exact⟨j+1,d,l2.set (o+j) s,by omega,by omega,hd,by go_num,rfl,by show _=_;rw [List.length_set];exact hl2.out,gS hw2 _ (by rw [cF];omega),by rw [←eG];exact (hb2.set _ _),
      NC (by rw [hl2.out];omega) hv2.out hzk.out hs.out,(hr2.setCell _ _)⟩
     case measure=>simp [intOf];omega
theorem G5 {c z Y Y':Nat}(hi:i<l.length)(h:nv l+Y=V+WB^i*c)(hz:l.getD i 0=z)(hY:Y'=Y+WB^i*y)(hs:s+y+c=z+WB*d):nv (l.set i s)+Y'=V+WB^(i+1)*d:=by
 have e1:=nW hi s
 rw [hz] at e1
 rw [cB,bH,hY]
 have e2:WB^i*(s+y+c)=WB^i*(z+WB*d):=by rw [hs]
 simp only [cT] at e2
 omega
theorem K6 {w:a6}(hz:Bk w g 65 (zs.map aW))(hwz:Wf zs)(hzl:zs.length=n)(hy:Rd w B m cap' ys)(hne:∀a,B=some a→0<m→a.block≠g)(hmn:m≤n)(hn:n≤1099511627776)(hv:nv ys≤nv zs):
  aO aF 257 #[.slice (some ⟨g,0,none⟩) n cap,.slice B m cap'] w (tX g zs (nv zs-nv ys) w):=by
 have hly:=Lib.hid hy.len
 have hlz:=Lib.hid hzl
 have HV:=Lib.hid hv
 clear hzl hv
 go_enter Tryz.func257,Tryz.ntmps257
 go_wp2_with fail
 go_loopw [9,4] (fun u v wr=>∃(i c:Nat) (l:List Nat),i≤n∧c≤1∧u= .int .i64 (i:Int)∧v= .int .u64 (c:Int)∧Hid (l.length=n)∧Wf l∧Bk wr g 65 (l.map aW)∧
  Hid (nv l+nv (ys.take i)=nv zs+WB^i*c)∧Upd g w wr) (fun u v wr=>n-(intOf u).toNat)
 case atStart=>exact⟨0,0,zs,bW _,bW _,rfl,rfl,hlz.out,hwz,hz,by simp [Hid,nv],Upd.refl _ _⟩
 case round=>
  obtain⟨i,c,l,hi,hc,rfl,rfl,hll,hwl,hb,hv,hr⟩:=hrel
  have fin:i=n∨(m≤i∧c=0)→tX g zs (nv zs-nv ys) w (.returned (.tuple #[])) wr:=by
   intro h
   have e:=hv.out
   rw [List.take_of_length_le (by rw [hly.out];omega)] at e
   have hlt:nv l<WB^n:=by have:=jM hwl;rwa [hll.out] at this
   refine⟨l,rfl,hb,hwl,(show _=_ by rw [hll.out,hlz.out]),?_,hr⟩
   show _=_
   have h2:=HV.out
   by_cases h0:c=0
   ·rw [h0,iG] at e;omega
   ·have hc1:c=1:=by omega
    have hin:i=n:=by omega
    rw [hc1,cI,hin] at e;omega
  have FIN:=Lib.hid fin
  clear fin
  by_cases him:i<n
  ·obtain⟨z,hzk,hzb,hcz⟩:=hb.word hwl (i:=i) (by rw [hll.out];omega)
   have hfr:=hb.frozen i
   by_cases hiy:i<m
   ·obtain⟨a,y,rfl,hyk,hyb,hcy⟩:=(hy.upd hr (fun a ha=>hne a ha (by omega))).get (i:=i) (by omega)
    obtain⟨s,d,hs,hsb,hd,hsub⟩:=xI hc hzb hyb
    go_wp2_with fail
    go_roundw
    case rel=>exact⟨i+1,d,l.set i s,by omega,hd,by go_num,rfl,by show _=_;rw [List.length_set];exact hll.out,gS hwl _ (by rw [cF];omega),by rw [←eG];exact (hb.set _ _),
     G5 (by rw [hll.out];omega) hv.out hzk.out (by rw [fB ys i (by rw [hly.out];omega),hyk.out]) hs.out,hr.setCell _ _⟩
    case measure=>simp [intOf];omega
   ·by_cases hc0:c=0
    ·subst hc0
     go_wp2_with fail
     refine nD (results_none rfl _ _ _) rfl ?_
     exact FIN.out (bR ⟨by omega,by simp⟩)
    ·obtain rfl:c=1:=by omega
     obtain⟨s,d,hs,hsb,hd,hsub⟩:=QQ hzb
     go_wp2_with fail
     go_roundw
     case rel=>exact⟨i+1,d,l.set i s,by omega,hd,by go_num,rfl,by show _=_;rw [List.length_set];exact hll.out,gS hwl _ (by rw [cF];omega),by rw [←eG];exact (hb.set _ _),
      G5 (y:=0) (c:=1) (by rw [hll.out];omega) hv.out hzk.out (by rw [List.take_of_length_le (by rw [hly.out];omega),List.take_of_length_le (by rw [hly.out];omega),iG,dN]) hs.out,hr.setCell _ _⟩
     case measure=>simp [intOf];omega
  ·go_wp2_with fail
   go_end0
   exact FIN.out (cE (by omega))
def NewP (w:a6)(v n:Nat)(e:fA)(w':a6):Prop:=
 ∃g zs,e= .returned (.slice (some ⟨g,0,none⟩) n n)∧w.heap.size≤g∧Bk w' g 65 (zs.map aW)∧Wf zs∧Hid (zs.length=n)∧Hid (nv zs=v)∧Ext w w'
theorem JG (h:xs.length≤n):nv (splice (bP n 0) 0 xs)=nv xs∧(splice (bP n 0) 0 xs).length=n:=by
 unfold splice
 constructor
 ·rw [List.take_zero,List.nil_append,List.drop_replicate,CE,yH,iG,dN]
 ·simp;omega
theorem NH (hx:Wf xs)(hy:Wf ys)(o:Nat):Wf (splice xs o ys):=tU (sB hx _) (tU hy (E5 hx _))
theorem K5 {w:a6}(hx:Rd w A n cap xs)(hl:n≤549755813888)(hy:Rd w B m cap' ys)(hl':m≤549755813888):
  aO aF 256 #[.slice A n cap,.slice B m cap'] w (NewP w (nv xs+nv ys) (max n m+1)):=by
 have hlx:=Lib.hid hx.len
 have hly:=Lib.hid hy.len
 obtain⟨k,hk⟩:∃k,max n m=k:=⟨_,rfl⟩
 rw [hk]
 have hnk:n≤k:=by omega
 have hmk':m≤k:=by omega
 have hkb:k≤549755813888:=by omega
 have hmax:max (n:Int) (m:Int)=(k:Int):=by omega
 have hmk:=lM (P:=aF) Tryz.underlying22 jE rfl (by decide) ((k:Int)+1) (by omega) (by omega)
 have et:((k:Int)+1).toNat=k+1:=by omega
 rw [et] at hmk
 clear et hk
 go_enter Tryz.func256,Tryz.ntmps256
 go_upto_region 2 with (fail)
 clear hmk
 obtain⟨g,hg⟩:∃g,w.heap.size=g:=⟨_,rfl⟩
 rw [hg]
 obtain⟨wa,hwa⟩:∃wa,w.alloc (.cells (zc (.int .u64 0) (k+1)) 65)=wa:=⟨_,rfl⟩
 rw [hwa]
 have hbk:Bk wa g 65 ((bP (k+1) 0).map aW):=by
  rw [←hwa,←hg,←kR];exact Bk.new' _ _ _
 have hea:Ext w wa:=by rw [←hwa];exact (Ext.refl w).alloc _
 have hgs:w.heap.size≤g:=by rw [hg];exact b8 _
 clear hg hwa
 have hr1:n≤k+1:=by omega
 go_wp2_with ((with_reducible refine dZ (some 15) ?_);refine wW rfl (.tmp 13) (.tmp 14) 22 22 rfl rfl rfl Tryz.underlying22 BO hbk (hx.rv.ext hea) (fun _=>rfl) (by rw [List.length_map,List.length_replicate];omega) (E6 xs) ?_;intro w1 hb1 hu1)
 rw [←k5,BL,List.take_of_length_le (l:=xs) (by rw [hlx.out];omega)] at hb1
 obtain⟨zs,hzs⟩:∃zs,zs=splice (bP (k+1) 0) 0 xs:=⟨_,rfl⟩
 have hz2:=JG (xs:=xs) (n:=k+1) (by rw [hlx.out];omega)
 have hwz:Wf zs:=by rw [hzs];exact NH (pM _) hx.wf _
 rw [←hzs] at hb1 hz2
 clear hzs
 obtain⟨hzv,hzl⟩:=hz2
 have HZV:=Lib.hid hzv
 have HZL:=Lib.hid hzl
 clear hzv hzl
 have he1:Ext w w1:=hu1.ext hea hgs
 refine (yM (o:=0) (n:=k+1) hb1 hwz (by rw [HZL.out];omega) (hy.ext he1) (fun a ha hp=>by have:=hy.rv.blk a ha (by have:=hy.rv.le;omega);omega) (by omega) (by omega) (by omega) ?_).mono ?_
 ·have h1:=jM hx.wf
  have h2:=jM hy.wf
  rw [hlx.out] at h1
  rw [hly.out] at h2
  have h3:WB^n≤WB^k:=dU gE hnk
  have h4:WB^m≤WB^k:=dU gE hmk'
  have h5:WB^k*2≤WB^k*WB:=eF _ NJ
  rw [HZV.out,Nat.pow_zero,Nat.one_mul,f9,cB]
  omega
 rintro e w2 ⟨zs',rfl,hb2,hw2,hl2,hv2,hu2⟩
 go_wp2_with fail
 go_ret
 refine⟨g,zs',rfl,hgs,hb2,hw2,(show _=_ by rw [hl2.out,HZL.out]),?_,hu2.ext he1 hgs⟩
 show _=_
 rw [hv2.out,HZV.out,Nat.pow_zero,Nat.one_mul]
theorem WQ {c o P:Nat}(hk:k=i+j)(hkm:k<m)(hml:m≤l.length)(h:nv (l.take m)+WB^k*c=P+x*(WB^i*nv (ys.take j)))(ho:l.getD k 0=o)(hj:j<ys.length)(hy:ys.getD j 0=y)(hs:s+WB*d=o+x*y+c):
  nv ((l.set k s).take m)+WB^(k+1)*d=P+x*(WB^i*nv (ys.take (j+1))):=by
 have e1:=nW (l:=l.take m) (k:=k) (by rw [bJ];omega) s
 rw [yR hkm,ho] at e1
 rw [List.take_set,fB ys j hj,hy,cT (WB^i),cT x,←j0,←h,←bH (WB^i),←bX,←hk,cB,bH (WB^k)]
 have e2:WB^k*(s+WB*d)=WB^k*(o+x*y+c):=by rw [hs]
 simp only [cT] at e2
 have e3:WB^k*(x*y)=x*(WB^k*y):=by rw [←bH,bY (WB^k) x,bH]
 rw [e3] at e2
 omega
theorem WW {w:a6}{capa capb:Nat}(hz:Bk w g 65 (zs.map aW))(hzz:zs=bP N 0)(hN:N=n+m)(hx:Rd w A n capa xs)(hy:Rd w B m capb ys)(hna:∀a,A=some a→0<n→a.block≠g)(hnb:∀a,B=some a→0<m→a.block≠g)(hn:n≤549755813888)(hm:m≤549755813888):
  aO aF 224 #[.slice (some ⟨g,0,none⟩) N cap,.slice A n capa,.slice B m capb] w (tX g zs (nv xs*nv ys) w):=by
 have hlx:=Lib.hid hx.len
 have hly:=Lib.hid hy.len
 have hlz:=Lib.hid (show zs.length=n+m by rw [hzz,List.length_replicate,hN])
 have hwz:Wf zs:=by rw [hzz];exact pM _
 have hz0:=Lib.hid (show∀t,zs.getD t 0=0 by intro t;rw [hzz];simp [bC,List.getElem?_replicate];split <;> rfl)
 have hzv:=Lib.hid (show nv (zs.take m)=0 by rw [hzz,List.take_replicate,yH])
 subst hN
 clear hzz
 go_enter Tryz.func224,Tryz.ntmps224
 go_wp2_with fail
 go_loopw [16] (fun u wr=>∃(i:Nat) (l:List Nat),i≤n∧u= .int .i64 (i:Int)∧Hid (l.length=n+m)∧Wf l∧Bk wr g 65 (l.map aW)∧
  Hid (nv (l.take (i+m))=nv (xs.take i)*nv ys)∧Hid (∀t,i+m≤t→l.getD t 0=0)∧Upd g w wr) (fun u wr=>n-(intOf u).toNat)
 case atStart=>exact⟨0,zs,bW _,rfl,hlz.out,hwz,hz,by simp [Hid,nv];exact hzv.out,fun t _=>hz0.out t,Upd.refl _ _⟩
 case round=>
  obtain⟨i,l,hi,rfl,hll,hwl,hb,hv,h0,hr⟩:=hrel
  by_cases hip:i<n
  ·obtain⟨a,x,rfl,hxk,hxb,hcx⟩:=(hx.upd hr (fun a ha=>hna a ha (by omega))).get (i:=i) (by omega)
   by_cases hx0:x=0
   ·subst hx0
    have hstay:Hid (nv (l.take (i+1+m))=nv (xs.take (i+1))*nv ys):=by
     show _=_
     rw [show i+1+m=i+m+1 from by omega,rN l (i+m) (by rw [hll.out];omega) (h0.out _ (by omega)),hv.out,rN xs i (by rw [hlx.out];omega) hxk.out]
    go_wp2_with fail
    go_roundw
    case rel=>exact⟨i+1,l,by omega,by go_num,hll.out,hwl,hb,hstay.out,fun t ht=>h0.out t (by omega),hr⟩
    case measure=>simp [intOf];omega
   ·have hxz:((x:Int)==0)=false:=by simp;omega
    go_wp2_with fail
    obtain⟨wo,rfl⟩:∃wo:a6,wo=wr:=⟨_,rfl⟩
    go_loopw [25,8] (fun u v wr=>∃(j c:Nat) (l:List Nat),j≤m∧c≤18446744073709551615∧u= .int .i64 (j:Int)∧v= .int .u64 (c:Int)∧Hid (l.length=n+m)∧Wf l∧Bk wr g 65 (l.map aW)∧
     Hid (nv (l.take (i+m))+WB^(i+j)*c=nv (xs.take i)*nv ys+x*(WB^i*nv (ys.take j)))∧Hid (∀t,i+m≤t→l.getD t 0=0)∧Upd g w wr) (fun u v wr=>m-(intOf u).toNat)
    case atStart=>exact⟨0,0,l,bW _,by omega,rfl,rfl,hll.out,hwl,hb,(show _=_ by rw [hv.out];simp [nv]),h0.out,hr⟩
    case round=>
     obtain⟨j,c,l2,hj,hc,rfl,rfl,hl2,hw2,hb2,hv2,h02,hr2⟩:=hrel
     clear hll hwl hb hv h0 hr hcx
     by_cases hjq:j<m
     ·obtain⟨b,y,rfl,hyk,hyb,hcy⟩:=(hy.upd hr2 (fun a ha=>hnb a ha (by omega))).get (i:=j) (by omega)
      obtain⟨o,hok,aK,hco⟩:=hb2.word hw2 (i:=i+j) (by rw [hl2.out];omega)
      have hfr:=hb2.frozen (i+j)
      go_wp2_with fail
      refine (bits_Mul64 x y hxb hyb _).mono ?_
      rintro e w' ⟨hi',lo,hp,hhb,hlb,rfl,rfl⟩
      obtain⟨s1,d1,hs1,hsb1,hd1,hadd1⟩:=wE hlb hc
      obtain⟨s2,d2,hs2,hsb2,hd2,hadd2⟩:=wE aK hsb1
      have hP:x*y≤340282366920938463426481119284349108225:=jQ hxb hyb
      have hk1:hi'+d1+d2≤18446744073709551615∧hi'+d1≤18446744073709551615:=by
       have e1:=hp.out
       have e2:=hs1.out
       have e3:=hs2.out
       rw [cF] at e1 e2 e3
       omega
      obtain⟨hk1,hk2⟩:=hk1
      clear hP
      go_wp2_with fail
      go_roundw
      case rel=>
       refine⟨j+1,hi'+d1+d2,l2.set (i+j) s2,by omega,by omega,by go_num,fW,by show _=_;rw [List.length_set];exact hl2.out,gS hw2 _ (by rw [cF];omega),by rw [←eG];exact hb2.set _ _,
        WQ (k:=i+j) (m:=i+m) rfl (by omega) (by rw [hl2.out];omega) hv2.out hok.out (by rw [hly.out];omega) hyk.out ?_,fun t ht=>?_,hr2.setCell _ _⟩
       ·have e1:=hp.out
        have e2:=hs1.out
        have e3:=hs2.out
        rw [cT,cT,←e1];omega
       ·rw [getD_set_ne (by omega)];exact h02.out t ht
      case measure=>simp [intOf];omega
     ·obtain rfl:j=m:=by omega
      obtain⟨o,hok,aK,hco⟩:=hb2.word hw2 (i:=i+j) (by rw [hl2.out];omega)
      have hfr:=hb2.frozen (i+j)
      go_wp2_with fail
      go_roundw
      case rel=>
       refine⟨i+1,l2.set (i+j) c,by omega,by go_num,by show _=_;rw [List.length_set];exact hl2.out,gS hw2 _ (by rw [cF];omega),by rw [←eG];exact hb2.set _ _,?_,fun t ht=>?_,hr2.setCell _ _⟩
       ·show _=_
        rw [show i+1+j=i+j+1 from by omega,CD (by rw [hl2.out];omega),hv2.out,List.take_of_length_le (l:=ys) (i:=j) (by rw [hly.out];omega),fB xs i (by rw [hlx.out];omega),hxk.out,dX,←bH,bY x]
       ·rw [getD_set_ne (by omega)];exact h02.out t (by omega)
      case measure=>simp [intOf];omega
  ·obtain rfl:i=n:=by omega
   go_wp2_with fail
   go_end0
   have h:=hv.out
   rw [List.take_of_length_le (by rw [hll.out];omega),List.take_of_length_le (by rw [hlx.out];omega)] at h
   exact⟨l,rfl,hb,hwl,(show _=_ by rw [hll.out,hlz.out]),h,hr⟩
def EB (w:a6)(x y:Nat)(e:fA)(w':a6):Prop:=∃k,Hid (k=(wd x).length+(wd y).length)∧NewP w (x*y) k e w'
def NO (N:Nat):Prop:=∀(w:a6) (A B:Option aC) (n cap m cap':Nat) (xs ys:List Nat),Rd w A n cap xs→Rd w B m cap' ys→n+m<N→n+m≤274877906944→
 aO aF 184 #[.slice A n cap,.slice B m cap'] w (EB w (nv xs) (nv ys))
theorem NewP.rd {w':a6}(hb:Bk w' g 65 (zs.map aW))(hw:Wf zs)(hl:zs.length=n)(hn:n≤1099511627776):Rd w' (some ⟨g,0,none⟩) n n zs:=by
 have:=hb.rd hw (o:=0) (n:=n) (cap:=n) (b8 _) (by omega) (by rw [eY];omega)
 rwa [gU,List.take_of_length_le (by omega)] at this
theorem Upd.then_new {w a b:a6}(h:Upd g w a)(e:Upd k a b)(hk:w.heap.size≤k):Upd g w b:=
 ⟨⟨e.by_.os.trans h.by_.os,e.by_.tape.trans h.by_.tape,e.by_.output.trans h.by_.output,aG h.by_.size e.by_.size,
  fun i hi hne=>(e.by_.block i (dF hi h.by_.size) (fun e'=>by have:=l4 e';omega)).trans (h.by_.block i hi hne)⟩⟩
theorem Rd.drop_some {w:a6}{a:aC}(h:Rd w (some a) n cap xs){l:Nat}(hl:l<n):Rd w (some (a.add l)) (n-l) (cap-l) (xs.drop l):=by
 have hc:=h.rv.le
 have:=h.cut (l:=l) (k:=n) (m:=cap) (by omega) (b8 _) hc (b8 _)
 rw [if_neg (by omega),uA,List.take_of_length_le (by rw [h.len];omega)] at this
 exact this
theorem Rd.empty {w:a6}(h:Rd w A n cap xs):Rd w A 0 0 []:=by
 have:=h.take (k:=0) (m:=0) (bW _) (b8 _) (bW _)
 simpa using this
def NW (w:a6)(h r:Nat)(xs:List Nat)(u v:aH)(wc:a6):Prop:=
 ∃A0 A1 c0 c1,u= .slice A0 h c0∧v= .slice A1 r c1∧Rd wc A0 h c0 (xs.take h)∧Rd wc A1 r c1 (xs.drop h)∧Ext w wc
set_option maxHeartbeats 4000000 in
theorem WX (IH:NO N){w:a6}(hz:Bk w g 65 (zs.map aW))(hzz:zs=bP (n+m) 0)(hx:Rd w A n n xs)(hy:Rd w B m m ys)(hna:∀a,A=some a→a.block≠g)(hnb:∀a,B=some a→a.block≠g)(hN:n+m=N)(hN2:N≤274877906944)(hm:24≤m)(hmn:m≤n)(hnm:n<2*m):
  aO aF 226 #[.slice (some ⟨g,0,none⟩) N N,.slice A n n,.slice B m m] w (tX g zs (nv xs*nv ys) w):=by
 have HI:=Lib.hid IH
 have HZZ:=Lib.hid hzz
 clear IH hzz
 have hlx:=Lib.hid hx.len
 have hly:=Lib.hid hy.len
 obtain⟨hf,hh⟩:∃hf,hf=(n+1)/2:=⟨_,rfl⟩
 have hh1:n≤2*hf:=by omega
 have hh2:2*hf≤n+1:=by omega
 have hh3:((n:Int)+1)/2=(hf:Int):=by omega
 have hNi:N≤n+m:=by omega
 have hNj:n+m≤N:=by omega
 have HN:=Lib.hid hN
 clear hh hN
 obtain⟨a,_,rfl,_,_,_⟩:=hx.get (i:=0) (by omega)
 obtain⟨b,_,rfl,_,_,_⟩:=hy.get (i:=0) (by omega)
 go_enter Tryz.func226,Tryz.ntmps226
 go_upto_region 1 with (fail)
 go_cut [7,8] (fun u v wc=>NW w hf (n-hf) xs u v wc)
 case first=>
  go_wp2_with fail
  go_quiet (fail)
  go_wp2_with fail
  go_meet
  case rel=>exact⟨_,_,_,_,rfl,rfl,(hx.take (k:=hf) (m:=hf) (by omega) (b8 _) (by omega)).ext (by repeat (first | exact Ext.refl _ | assumption | apply Ext.drewN | apply Ext.drew | apply Ext.alloc)),(hx.drop_some (l:=hf) (by omega)).ext (by repeat (first | exact Ext.refl _ | assumption | apply Ext.drewN | apply Ext.drew | apply Ext.alloc)),(by repeat (first | exact Ext.refl _ | assumption | apply Ext.drewN | apply Ext.drew | apply Ext.alloc))⟩
 case rest=>
  obtain⟨A0,A1,c0,c1,rfl,rfl,hx0,hx1,hext1⟩:=hcut
  obtain⟨wx,rfl⟩:∃wx:a6,wx=wc:=⟨_,rfl⟩
  go_upto_region 2 with (fail)
  go_cut [9,10] (fun u v wc=>NW wx hf (m-hf) ys u v wc)
  case first=>
   by_cases hhm:hf=m
   ·subst hhm
    have e0:hf-hf=0:=by omega
    go_wp2_with fail
    go_quiet (fail)
    go_wp2_with fail
    go_meet
    case rel=>
     have hy2:=(hy.ext hext1)
     refine⟨_,some b,_,0,rfl,by rw [e0],(hy2.take (k:=hf) (m:=hf) (by omega) (b8 _) (by omega)).ext (by repeat (first | exact Ext.refl _ | assumption | apply Ext.drewN | apply Ext.drew | apply Ext.alloc)),?_,(by repeat (first | exact Ext.refl _ | assumption | apply Ext.drewN | apply Ext.drew | apply Ext.alloc))⟩
     rw [e0,List.drop_eq_nil_of_le (by rw [hly.out];omega)]
     exact hy2.empty.ext (by repeat (first | exact Ext.refl _ | assumption | apply Ext.drewN | apply Ext.drew | apply Ext.alloc))
   ·have hhm2:hf<m:=by omega
    go_wp2_with fail
    go_quiet (fail)
    go_wp2_with fail
    go_meet
    case rel=>
     have hy2:=(hy.ext hext1)
     exact⟨_,_,_,_,rfl,rfl,(hy2.take (k:=hf) (m:=hf) (by omega) (b8 _) (by omega)).ext (by repeat (first | exact Ext.refl _ | assumption | apply Ext.drewN | apply Ext.drew | apply Ext.alloc)),(hy2.drop_some (l:=hf) (by omega)).ext (by repeat (first | exact Ext.refl _ | assumption | apply Ext.drewN | apply Ext.drew | apply Ext.alloc)),(by repeat (first | exact Ext.refl _ | assumption | apply Ext.drewN | apply Ext.drew | apply Ext.alloc))⟩
  case rest=>
   obtain⟨B0,B1,d0,d1,rfl,rfl,hy0,hy1,hext2⟩:=hcut
   have hx0':=hx0.ext hext2
   have hx1':=hx1.ext hext2
   have hz':=hz.ext (hext1.trans hext2)
   have hE:=hext1.trans hext2
   clear hx0 hx1 hext1 hext2
   go_wp2_with fail
   refine (HI.out _ _ _ _ _ _ _ _ _ hx0' hy0 (by omega) (by omega)).mono ?_
   rintro e w1 ⟨kl,hkl,gl,zl,rfl,hgl,hbl,hwl,hll,hvl,he1⟩
   have hlb:kl≤2*hf:=by
    rw [hkl.out]
    have h1:=iM hx0'.wf
    have h2:=iM hy0.wf
    rw [hx0'.len] at h1
    rw [hy0.len] at h2
    omega
   go_wp2_with fail
   refine (tG (NewP.rd hbl hwl hll.out (by omega))).mono ?_
   rintro e w' ⟨tl,htl,rfl,hrl,rfl⟩
   rw [hvl.out] at htl hrl
   go_wp2_with fail
   refine (HI.out _ _ _ _ _ _ _ _ _ (hx1'.ext he1) (hy1.ext he1) (by omega) (by omega)).mono ?_
   rintro e w2 ⟨kh,hkh,gh,zh,rfl,hgh,hbh,hwh,hlh,hvh,he2⟩
   have hhb:kh≤(n-hf)+(m-hf):=by
    rw [hkh.out]
    have h1:=iM hx1'.wf
    have h2:=iM hy1.wf
    rw [hx1'.len] at h1
    rw [hy1.len] at h2
    omega
   go_wp2_with fail
   refine (tG (NewP.rd hbh hwh hlh.out (by omega))).mono ?_
   rintro e w' ⟨th,hth,rfl,hrh,rfl⟩
   rw [hvh.out] at hth hrh
   have he12:=he1.trans he2
   go_wp2_with fail
   refine (K5 (hx0'.ext he12) (by omega) (hx1'.ext he12) (by omega)).mono ?_
   rintro e w3 ⟨g3,z3,rfl,hg3,hb3,hw3,hl3,hv3,he3⟩
   go_wp2_with fail
   refine (K5 (hy0.ext (he12.trans he3)) (by omega) (hy1.ext (he12.trans he3)) (by omega)).mono ?_
   rintro e w4 ⟨g4,z4,rfl,hg4,hb4,hw4,hl4,hv4,he4⟩
   have q3:max hf (n-hf)+1=hf+1:=by omega
   have q4:max hf (m-hf)+1=hf+1:=by omega
   rw [q3] at hl3
   rw [q4] at hl4
   rw [q3,q4]
   clear q3 q4
   go_wp2_with fail
   refine (HI.out _ _ _ _ _ _ _ _ _ (NewP.rd (hb3.ext he4) hw3 hl3.out (by omega)) (NewP.rd hb4 hw4 hl4.out (by omega)) (by omega) (by omega)).mono ?_
   rintro e w5 ⟨km,hkm,gm,zm,rfl,hgm,hbm,hwm,hlm,hvm,he5⟩
   have vx:Hid (nv xs=nv (xs.take hf)+WB^hf*nv (xs.drop hf)):=oZ xs hf (by rw [hlx.out];omega)
   have vy:Hid (nv ys=nv (ys.take hf)+WB^hf*nv (ys.drop hf)):=oZ ys hf (by rw [hly.out];omega)
   have bx:Hid (nv xs*nv ys<WB^N):=by
    show _<_
    have h1:=jM hx.wf
    have h2:=jM hy.wf
    rw [hlx.out] at h1
    rw [hly.out] at h2
    rw [←HN.out,bX]
    exact uC h1 h2
   have bl:Hid (nv (xs.take hf)*nv (ys.take hf)<WB^(2*hf)):=by
    show _<_
    have h1:=m9 hx.wf hf
    have h2:=m9 hy.wf hf
    rw [Nat.two_mul,bX]
    exact uC h1 h2
   rw [hv3.out,hv4.out] at hvm hkm
   generalize nv (xs.take hf)=X0 at*
   generalize nv (xs.drop hf)=X1 at*
   generalize nv (ys.take hf)=Y0 at*
   generalize nv (ys.drop hf)=Y1 at*
   have emid:Hid ((X0+X1)*(Y0+Y1)=X0*Y0+X1*Y1+(X0*Y1+X1*Y0)):=by
    show _=_
    simp only [dX,cT];omega
   have eall:Hid (nv xs*nv ys=X0*Y0+WB^(2*hf)*(X1*Y1)+WB^hf*(X0*Y1+X1*Y0)):=by
    show _=_
    rw [vx.out,vy.out,Nat.two_mul,bX]
    simp only [dX,cT,bH]
    rw [Nat.mul_left_comm X0 (WB^hf) Y1,Nat.mul_left_comm X1 (WB^hf) Y1]
    omega
   have he25:=(he3.trans he4).trans he5
   have sl:tl≤km:=by
    have h1:=jM hwm
    rw [hlm.out,hvm.out,emid.out] at h1
    rw [htl.out]
    exact fY (by omega)
   have sh:th≤km:=by
    have h1:=jM hwm
    rw [hlm.out,hvm.out,emid.out] at h1
    rw [hth.out]
    exact fY (by omega)
   have hgl':gl<w1.heap.size:=hbl.lt
   have hgh':gh<w2.heap.size:=hbh.lt
   have s12:=he12.size
   have s2:=he2.size
   have s25:=he25.size
   have s5:=(he3.trans he4).size
   have n1:gl≠gm:=by omega
   have n2:gh≠gm:=by omega
   have hgz:g<w.heap.size:=hz.lt
   have sE:=hE.size
   have n3:g≠gm:=by have:=he12.size;omega
   have n4:g≠gl:=by omega
   have n5:g≠gh:=by have:=he1.size;omega
   have hkmb:km≤549755813888:=by
    rw [hkm.out]
    have h1:=iM hw3
    have h2:=iM hw4
    rw [hl3.out,hv3.out] at h1
    rw [hl4.out,hv4.out] at h2
    omega
   go_wp2_with fail
   refine (K6 hbm hwm hlm.out (hrl.ext (he2.trans he25)) (fun a ha _=>by cases ha;exact n1) sl (by omega) (by rw [gH,hvm.out,emid.out];omega)).mono ?_
   rintro e w6 ⟨z6,rfl,hb6,hw6,hl6,hv6,hu6⟩
   rw [gH,hvm.out,emid.out] at hv6
   go_wp2_with fail
   refine (K6 hb6 hw6 (by rw [hl6.out,hlm.out]) ((hrh.ext he25).upd hu6 (fun a ha=>by cases ha;exact n2)) (fun a ha _=>by cases ha;exact n2) sh (by omega) (by rw [gH,hv6.out];omega)).mono ?_
   rintro e w7 ⟨z7,rfl,hb7,hw7,hl7,hv7,hu7⟩
   rw [gH,hv6.out] at hv7
   have hu67:=hu6.trans hu7
   have hz7:Bk w7 g 65 (zs.map aW):=(hz'.ext (he12.trans he25)).upd hu67 n3
   have hrl7:Rd w7 (some ⟨gl,0,none⟩) tl tl (wd (X0*Y0)):=(hrl.ext (he2.trans he25)).upd hu67 (fun a ha=>by cases ha;exact n1)
   have hrh7:Rd w7 (some ⟨gh,0,none⟩) th th (wd (X1*Y1)):=(hrh.ext he25).upd hu67 (fun a ha=>by cases ha;exact n2)
   have hv7':Hid (nv z7=X0*Y1+X1*Y0):=by show _=_;rw [hv7.out];omega
   go_wp2_with ((with_reducible refine dZ (some 55) ?_);refine wW rfl (.tmp 53) (.tmp 54) 22 22 rfl rfl rfl Tryz.underlying22 BO hz7 hrl7.rv (fun _=>rfl) ?fit (E6 _) ?_;rotate_left;intro w8 hb8 hu8)
   case fit=>rw [List.length_map,HZZ.out,List.length_replicate];omega
   have hwt:Wf (wd (X0*Y0)):=pN _
   have tlN:tl≤N:=by rw [htl.out];exact fY (iH (by rw [eall.out];omega) bx.out)
   rw [←k5,List.take_of_length_le (l:=wd (X0*Y0)) (by rw [←htl.out];exact tlN),HZZ.out,BL] at hb8
   obtain⟨hv8,hl8⟩:=JG (xs:=wd (X0*Y0)) (n:=n+m) (by rw [←htl.out];omega)
   rw [gH] at hv8
   have hw8:Wf (splice (bP (n+m) 0) 0 (wd (X0*Y0))):=NH (pM _) hwt _
   generalize splice (bP (n+m) 0) 0 (wd (X0*Y0))=z8 at*
   have HV8:=Lib.hid hv8
   have HL8:=Lib.hid hl8
   clear hv8 hl8
   have hrh8:=hrh7.upd hu8 (fun a ha=>by cases ha;exact fun e=>n5 e.symm)
   have tot2:Hid (X0*Y0+WB^(2*hf)*(X1*Y1)<WB^N):=iH (by rw [eall.out];omega) bx.out
   have thN:th≤N-2*hf:=by
    rw [hth.out]
    refine fY ?_
    have h1:=tot2.out
    refine Nat.lt_of_mul_lt_mul_left (a:=WB^(2*hf)) ?_
    rw [←bX,show 2*hf+(N-2*hf)=N from by omega]
    omega
   have e2h:2*hf+(N-2*hf)=N:=by omega
   have hadd:=yM (o:=2*hf) (n:=N-2*hf) (cap:=N-2*hf) hb8 hw8 (by rw [HL8.out,HN.out,e2h]) hrh8 (fun a ha _=>by cases ha;exact fun e=>n5 e.symm) thN (by omega) (by omega) (by rw [HV8.out,gH,e2h];exact tot2.out)
   refine hadd.mono ?_
   clear hadd
   clear e2h
   rintro e w9 ⟨z9,rfl,hb9,hw9,hl9,hv9,hu9⟩
   rw [HV8.out,gH] at hv9
   have hz79:Bk w9 gm 65 (z7.map aW):=(hb7.upd hu8 (fun e=>n3 e.symm)).upd hu9 (fun e=>n3 e.symm)
   have hrm:Rd w9 (some ⟨gm,0,none⟩) km km z7:=NewP.rd hz79 hw7 (by rw [hl7.out,hl6.out,hlm.out]) (by omega)
   go_wp2_with fail
   have tot3:Hid (nv z9+WB^hf*nv z7<WB^(hf+(N-hf))):=by
    show _<_
    rw [hv9.out,hv7'.out,show hf+(N-hf)=N from by omega,←eall.out];exact bx.out
   have tmN:(wd (nv z7)).length≤N-hf:=by
    refine fY ?_
    have h1:=tot3.out
    refine Nat.lt_of_mul_lt_mul_left (a:=WB^hf) ?_
    rw [←bX]
    omega
   have hl9':Hid (z9.length=hf+(N-hf)):=by show _=_;rw [hl9.out,HL8.out,HN.out];omega
   have b9:hf≤1099511627776:=by omega
   have b10:N-hf≤1099511627776:=by omega
   have fin:∀z10 w10,Wf z10→Bk w10 g 65 (z10.map aW)→z10.length=z9.length→nv z10=nv z9+WB^hf*nv (wd (nv z7))→Upd g w9 w10→tX g zs (nv xs*nv ys) w (.returned (.tuple #[])) w10:=by
    intro z10 w10 h1 h2 h3 h4 h5
    refine⟨z10,rfl,h2,h1,(show _=_ by rw [h3,hl9.out,HL8.out,HZZ.out,List.length_replicate]),?_,?_⟩
    ·show _=_
     rw [h4,gH,hv9.out,hv7'.out,←eall.out]
    ·have u5:Upd g w w5:=Upd.of_ext (hE.trans (he12.trans he25))
     have u7:Upd g w w7:=u5.then_new hu67 (by omega)
     exact ((u7.trans hu8).trans hu9).trans h5
   have FIN:=Lib.hid fin
   clear fin
   go_region_with (first
    | (go_at_call 223;refine (tG (hrm.ext (by repeat (first | exact Ext.refl _ | assumption | apply Ext.drewN | apply Ext.drew | apply Ext.alloc)))).mono ?_;rintro e w' ⟨tm,htm,rfl,hrm2,rfl⟩)
    | (go_at_call 225;refine (yM (o:=hf) (n:=N-hf) (hb9.ext (by repeat (first | exact Ext.refl _ | assumption | apply Ext.drewN | apply Ext.drew | apply Ext.alloc))) hw9 hl9'.out hrm2 (fun a ha _=>by cases ha;exact fun e=>n3 e.symm) (by rw [htm.out];exact tmN) b10 b9 (by rw [gH];exact tot3.out)).mono ?_;rintro e w10 ⟨z10,rfl,hb10,hw10,hl10,hv10,hu10⟩))
   all_goals
    go_end0
    exact FIN.out z10 _ hw10 (by first | exact hb10 | exact hb10.drew | exact hb10.drewN _) hl10.out hv10.out (by first | exact (Upd.of_ext (by repeat (first | exact Ext.refl _ | assumption | apply Ext.drewN | apply Ext.drew | apply Ext.alloc))).trans hu10 | exact ((Upd.of_ext (by repeat (first | exact Ext.refl _ | assumption | apply Ext.drewN | apply Ext.drew | apply Ext.alloc))).trans hu10).drew)
set_option maxHeartbeats 4000000 in
theorem V8 (N:Nat):NO N:=by
 induction N with
 | zero=>intro w A B n cap m cap' xs ys _ _ h;omega
 | succ N IH=>
  intro w A B n cap m cap' xs ys hx hy hN hN2
  have HI:=Lib.hid IH
  clear IH
  go_enter Tryz.func184,Tryz.ntmps184
  go_wp2_with fail
  refine (tG hx).mono ?_
  rintro e w' ⟨p,hp,rfl,hx1,rfl⟩
  go_wp2_with fail
  refine (tG hy).mono ?_
  rintro e w' ⟨q,hq,rfl,hy1,rfl⟩
  have hpn:p≤n:=by rw [hp.out];have:=iM hx.wf;rw [hx.len] at this;exact this
  have hqm:q≤m:=by rw [hq.out];have:=iM hy.wf;rw [hy.len] at this;exact this
  go_upto_if 16 with (fail)
  go_cut [0,1] (fun u v wc=>∃A B p q xs' ys',u= .slice A p p∧v= .slice B q q∧Rd w A p p xs'∧Rd w B q q ys'∧Hid (nv xs'*nv ys'=nv xs*nv ys)∧q≤p∧p+q≤n+m∧Hid (p+q=(wd (nv xs)).length+(wd (nv ys)).length)∧w=wc)
  case first=>
   by_cases hpq:p<q
   ·go_wp2_with fail
    go_meet
    case rel=>exact⟨B,A,q,p,_,_,rfl,rfl,hy1,hx1,(show _=_ by rw [gH,gH,bY]),by omega,by omega,(show _=_ by rw [←hp.out,←hq.out];omega),rfl⟩
   ·go_wp2_with fail
    go_meet
    case rel=>exact⟨A,B,p,q,_,_,rfl,rfl,hx1,hy1,(show _=_ by rw [gH,gH]),by omega,by omega,(show _=_ by rw [←hp.out,←hq.out]),rfl⟩
  case rest=>
   clear hx1 hy1 hp hq hpn hqm hx hy
   obtain⟨A,B,p,q,xs',ys',rfl,rfl,hx,hy,hXY,hqp,hpq,hK,rfl⟩:=hcut
   have hlx:=Lib.hid hx.len
   have hly:=Lib.hid hy.len
   have hmk:=lM (P:=aF) Tryz.underlying22 jE rfl (by decide) ((p:Int)+(q:Int)) (by omega) (by omega)
   have et:((p:Int)+(q:Int)).toNat=p+q:=by omega
   rw [et] at hmk
   clear et
   obtain⟨g,hg⟩:∃g,w.heap.size=g:=⟨_,rfl⟩
   obtain⟨wa,hwa⟩:∃wa,w.alloc (.cells (zc (.int .u64 0) (p+q)) 65)=wa:=⟨_,rfl⟩
   have hbk:Bk wa g 65 ((bP (p+q) 0).map aW):=by
    rw [←hwa,←hg,←kR];exact Bk.new' _ _ _
   have hea:Ext w wa:=by rw [←hwa];exact (Ext.refl w).alloc _
   have hgs:w.heap.size≤g:=by rw [hg];exact b8 _
   have hna:∀a,A=some a→0<p→a.block≠g:=fun a ha hp=>by have:=hx.rv.blk a ha (by have:=hx.rv.le;omega);omega
   have hnb:∀a,B=some a→0<q→a.block≠g:=fun a ha hp=>by have:=hy.rv.blk a ha (by have:=hy.rv.le;omega);omega
   have HNA:=Lib.hid hna
   have HNB:=Lib.hid hnb
   have HG:=Lib.hid hg
   have HWA:=Lib.hid hwa
   clear hna hnb hg hwa
   go_upto_region 6 with (fail)
   rw [HG.out,HWA.out]
   clear hmk HG HWA
   have fin:∀zs' w',Bk w' g 65 (zs'.map aW)→Wf zs'→zs'.length=p+q→nv zs'=nv xs'*nv ys'→Upd g wa w'→EB w (nv xs) (nv ys) (.returned (.slice (some ⟨g,0,none⟩) (p+q) (p+q))) w':=by
    intro zs' w' h1 h2 h3 h4 h5
    exact⟨_,hK.out,g,zs',rfl,hgs,h1,h2,h3,by show _=_;rw [h4,hXY.out],h5.ext hea hgs⟩
   have FIN:=Lib.hid fin
   clear fin
   by_cases h24:q<24
   ·go_wp2_with fail
    refine (WW hbk rfl rfl (hx.ext hea) (hy.ext hea) HNA.out HNB.out (by omega) (by omega)).mono ?_
    rintro e w1 ⟨z1,rfl,hb1,hw1,hl1,hv1,hu1⟩
    go_wp2_with fail
    go_ret
    exact FIN.out z1 w1 hb1 hw1 (by rw [hl1.out,List.length_replicate]) hv1.out hu1
   ·have hb24:decide ((q:Int)<24)=false:=by simp;omega
    by_cases h2q:p<2*q
    ·go_wp2_with fail
     refine (WX (N:=p+q) (fun w A B n cap m cap' xs ys h1 h2 h3 h4=>HI.out w A B n cap m cap' xs ys h1 h2 (by omega) h4) hbk rfl (hx.ext hea) (hy.ext hea) (fun a ha=>HNA.out a ha (by omega)) (fun a ha=>HNB.out a ha (by omega)) rfl (by omega) (by omega) hqp h2q).mono ?_
     rintro e w1 ⟨z1,rfl,hb1,hw1,hl1,hv1,hu1⟩
     go_wp2_with fail
     go_ret
     exact FIN.out z1 w1 hb1 hw1 (by rw [hl1.out,List.length_replicate]) hv1.out hu1
    ·have hb2q:decide (2*(q:Int)≤(p:Int))=true:=by simp;omega
     obtain⟨a,_,rfl,_,_,_⟩:=hx.get (i:=0) (by omega)
     go_wp2_with fail
     go_loopw [6] (fun u wr=>∃(i:Nat) (l:List Nat),i≤p+q∧u= .int .i64 (i:Int)∧Hid (l.length=p+q)∧Wf l∧Bk wr g 65 (l.map aW)∧Hid (nv l=nv (xs'.take i)*nv ys')∧Upd g wa wr) (fun u wr=>p+q-(intOf u).toNat)
     case atStart=>exact⟨0,_,bW _,rfl,List.length_replicate,pM _,hbk,(show _=_ by rw [yH];simp [nv]),Upd.refl _ _⟩
     case round=>
      obtain⟨i,l,hi,rfl,hll,hwl,hb,hv,hr⟩:=hrel
      clear hbk
      by_cases hip:i<p
      ·obtain⟨e,he⟩:∃e,e=min (i+q) p:=⟨_,rfl⟩
       have he1:i<e:=by omega
       have he2:e≤p:=by omega
       have he3:e≤i+q:=by omega
       have hmin:min ((i:Int)+(q:Int)) (p:Int)=(e:Int):=by omega
       have HE:=Lib.hid he
       clear he
       have hxr:=(hx.ext hea).upd hr (fun a ha=>HNA.out a ha (by omega))
       have hyr:=(hy.ext hea).upd hr (fun a ha=>HNB.out a ha (by omega))
       have hcut:=hxr.cut (l:=i) (k:=e) (m:=e) (by omega) he2 (b8 _) he2
       rw [if_neg (by omega),uA] at hcut
       have hnext:Hid (nv (xs'.take (i+q))*nv ys'=nv l+WB^i*(nv ((xs'.take e).drop i)*nv ys')):=by
        show _=_
        have e1:xs'.take (i+q)=xs'.take e:=by
         rw [HE.out]
         rcases Nat.le_total (i+q) p with h | h
         ·rw [fT h]
         ·rw [Nat.min_eq_right h,List.take_of_length_le (by rw [hlx.out];omega),List.take_of_length_le (by rw [hlx.out];omega)]
        have e2:=oZ (xs'.take e) i (by rw [bJ,hlx.out];omega)
        rw [List.take_take,fT (by omega)] at e2
        rw [e1,e2,dX,hv.out,bH]
       have hbnd:Hid (nv l+WB^i*(nv ((xs'.take e).drop i)*nv ys')<WB^(i+(p+q-i))):=by
        show _<_
        rw [←hnext.out,show i+(p+q-i)=p+q from by omega,bX]
        have h1:=jM (sB hx.wf (i+q))
        have h2:=jM hy.wf
        rw [hly.out] at h2
        have h3:WB^(xs'.take (i+q)).length≤WB^p:=dU gE (by rw [bJ,hlx.out];omega)
        exact uC (dF h1 h3) h2
       have htm:(wd (nv ((xs'.take e).drop i)*nv ys')).length≤p+q-i:=by
        refine fY ?_
        have h1:=hbnd.out
        refine Nat.lt_of_mul_lt_mul_left (a:=WB^i) ?_
        rw [←bX]
        omega
       have hprod:nv ((xs'.take e).drop i)*nv ys'<WB^(p+q):=by
        have:=hbnd.out
        have h1:0<WB^i:=eP gE
        have h2:=Nat.le_mul_of_pos_left (nv ((xs'.take e).drop i)*nv ys') h1
        rw [show i+(p+q-i)=p+q from by omega] at this
        omega
       have HP:=Lib.hid hprod
       clear hprod
       have b1:i≤1099511627776:=by omega
       have b2:p+q-i≤1099511627776:=by omega
       have b3:e-i+q<N:=by omega
       have b4:e-i+q≤274877906944:=by omega
       have hgr:g<wr.heap.size:=hb.lt
       go_wp2_with fail
       have hk1b:(wd (nv ((xs'.take e).drop i))).length+(wd (nv ys')).length≤e-i+q:=by
        have h1:=iM hcut.wf
        have h2:=iM hy.wf
        rw [hcut.len] at h1
        rw [hy.len] at h2
        omega
       have htm':(wd (nv (wd (nv ((xs'.take e).drop i)*nv ys')))).length≤p+q-i:=by rw [gH];exact htm
       have hbnd':Hid (nv l+WB^i*nv (wd (nv ((xs'.take e).drop i)*nv ys'))<WB^(i+(p+q-i))):=by show _<_;rw [gH];exact hbnd.out
       have hll':Hid (l.length=i+(p+q-i)):=by show _=_;rw [hll.out];omega
       have hgwr:g<wr.heap.size:=hb.lt
       go_region_with (first
        | (go_at_call 184;refine (HI.out _ _ _ _ _ _ _ _ _ (hcut.ext (by repeat (first | exact Ext.refl _ | assumption | apply Ext.drewN | apply Ext.drew | apply Ext.alloc))) (hyr.ext (by repeat (first | exact Ext.refl _ | assumption | apply Ext.drewN | apply Ext.drew | apply Ext.alloc))) b3 b4).mono ?_;rintro er w1 ⟨k1,hk1,g1,z1,rfl,hg1,hb1,hw1,hl1,hv1,hx1⟩;have hr1:=NewP.rd hb1 hw1 hl1.out (by rw [hk1.out];omega);have hne1:g1≠g:=(by have h:wr.heap.size≤g1:=hg1;omega);have hx1':Ext wr w1:=Ext.trans (by repeat (first | exact Ext.refl _ | assumption | apply Ext.drewN | apply Ext.drew | apply Ext.alloc)) hx1)
        | (go_at_call 223;refine (tG (hr1.ext (by repeat (first | exact Ext.refl _ | assumption | apply Ext.drewN | apply Ext.drew | apply Ext.alloc))) (hl:=(by rw [hk1.out];omega))).mono ?_;rintro er w' ⟨tm,htm2,rfl,hrm2,rfl⟩;rw [hv1.out] at htm2 hrm2)
        | (go_at_call 225;refine (yM (o:=i) (n:=p+q-i) (hb.ext hx1') hwl hll'.out hrm2 (fun a ha _=>by cases ha;exact hne1) (by rw [htm2.out];exact htm) b2 b1 hbnd'.out).mono ?_;rintro er w10 ⟨z10,rfl,hb10,hw10,hl10,hv10,hu10⟩))
       all_goals
        go_wp2_with fail
        go_roundw
        case rel=>
         refine⟨i+q,z10,by omega,by go_num,(show _=_ by rw [hl10.out,hll.out]),hw10,by first | exact hb10 | exact hb10.drew | exact hb10.drewN _,?_,?_⟩
         ·show _=_
          rw [hv10.out,gH];exact hnext.out.symm
         ·have u1:Upd g wa w10:=(hr.then_ext hx1').trans (Upd.trans (Upd.of_ext (by repeat (first | exact Ext.refl _ | assumption | apply Ext.drewN | apply Ext.drew | apply Ext.alloc))) hu10)
          first | exact u1 | exact u1.drew | exact u1.drewN _
        case measure=>simp [intOf];omega
      ·have hfull:Hid (nv l=nv xs'*nv ys'):=by
        show _=_
        rw [hv.out,List.take_of_length_le (by rw [hlx.out];omega)]
       go_wp2_with fail
       go_ret
       exact FIN.out l _ hb hwl hll.out hfull.out hr
theorem K7 {w:a6}(hx:Rd w A n cap xs)(hy:Rd w B m cap' ys)(hN:n+m≤274877906944):
  aO aF 184 #[.slice A n cap,.slice B m cap'] w (EB w (nv xs) (nv ys)):=V8 (n+m+1) w A B n cap m cap' xs ys hx hy (by omega) hN
theorem CM {w:a6}(hx:Rd w A n cap xs)(hy:Rd w B m cap' ys)(hN:n+m≤274877906944):
  aO aF 125 #[.slice A n cap,.slice B m cap'] w (jW w (nv xs*nv ys)):=by
 go_enter Tryz.func125,Tryz.ntmps125
 go_wp2_with fail
 refine (K7 hx hy hN).mono ?_
 rintro e w1 ⟨k1,hk1,g1,z1,rfl,hg1,hb1,hw1,hl1,hv1,hx1⟩
 have hk1b:k1≤n+m:=by
  rw [hk1.out]
  have h1:=iM hx.wf
  have h2:=iM hy.wf
  rw [hx.len] at h1
  rw [hy.len] at h2
  omega
 go_wp2_with fail
 refine (mW (NewP.rd hb1 hw1 hl1.out (by omega))).mono ?_
 rintro e w2 ⟨A2,n2,c2,rfl,hn2,hr2,ho2,hx2⟩
 go_wp2_with fail
 go_ret
 rw [hv1.out] at hn2 hr2 ho2
 exact⟨A2,n2,c2,rfl,hn2,hr2,ho2.mono hx1.size,hx1.trans hx2⟩
theorem WT {w:a6}(hx:Rd w A n cap xs)(hN:n≤137438953472):
  aO aF 198 #[.slice A n cap] w (jW w (nv xs*nv xs)):=by
 go_enter Tryz.func198,Tryz.ntmps198
 go_wp2_with fail
 refine (CM hx hx (by omega)).mono ?_
 rintro e w1 ⟨A2,n2,c2,rfl,h⟩
 go_wp2_with fail
 go_ret
 exact⟨A2,n2,c2,rfl,h⟩
theorem Rd.one (w:a6)(hx:x≤18446744073709551615):Rd (w.alloc (.cells #[.int .u64 (x:Int)] 65)) (some ⟨w.heap.size,0,none⟩) 1 1 [x]:=
 ⟨Rv.one w 65 _,E4 (by rw [cF];omega)⟩
theorem WS {w:a6}(hx:Rd w A n cap xs)(hN:n≤137438953472)(hxb:x≤18446744073709551615):
  aO aF 247 #[.slice A n cap,.int .u64 (x:Int)] w (jW w (nv xs*x)):=by
 go_enter Tryz.func247,Tryz.ntmps247
 go_wp2_with fail
 refine (CM (hx.ext (by repeat (first | exact Ext.refl _ | assumption | apply Ext.drewN | apply Ext.drew | apply Ext.alloc))) (Rd.one w hxb) (by omega)).mono ?_
 rintro e w1 ⟨A2,n2,c2,rfl,hn2,hr2,ho2,hx2⟩
 go_wp2_with fail
 go_ret
 rw [vH] at hn2 hr2 ho2
 exact⟨A2,n2,c2,rfl,hn2,hr2,ho2.mono (by simp),((Ext.refl w).alloc _).trans hx2⟩
theorem Own.word {w:a6}(h:Own w base 65 1 A n cap (xs.map aW))(hw:Wf xs)(hi:i<n):
  ∃g x,A=some ⟨g,0,none⟩∧base≤g∧Hid (xs.getD i 0=x)∧x≤18446744073709551615∧w.cell? ⟨g,i,none⟩=some (.int .u64 (x:Int))∧w.frozen? ⟨g,i,none⟩=false∧
   ∀u:Nat,Own (w.setCell ⟨g,i,none⟩ (.int .u64 (u:Int))) base 65 1 (some ⟨g,0,none⟩) n cap ((xs.set i u).map aW):=by
 have hlen:xs.length=n:=by simpa using h.rv.len
 rcases h with⟨rfl,rfl,rfl,_⟩ | ⟨g,cs,rfl,hb,hk,hn,hm,hl,hv⟩
 ·omega
 ·have hlt:=oD hw i
  have hi2:i<cs.length:=by omega
  refine⟨g,_,rfl,hb,rfl,by rw [cF] at hlt;omega,?_,hk.frozen i,fun u=>?_⟩
  ·rw [hk.cell hi2]
   have:cs.getD i undef=(cs.take (n*1)).getD i undef:=by
    simp only [bC,kJ]
    rw [if_pos (by omega)]
   rw [this,hv]
   simp [bC,kK,cJ (show i<xs.length by omega)]
  ·refine Own.mk_ hb (hk.set i _) hn hm (by rw [List.length_set];exact hl) ?_
   rw [←eG,←hv,List.take_set]
def a1J (w:a6)(q r:Nat)(e:fA)(w':a6):Prop:=
 ∃A n cap r',e= .returned (.tuple #[.slice A n cap,.int .u64 (r':Nat),.int .i64 0])∧Hid (r'=r)∧r'≤18446744073709551615∧Hid (n=(wd q).length)∧Rd w' A n cap (wd q)∧Own w' w.heap.size 65 1 A n cap ((wd q).map aW)∧Ext w w'
theorem OT {rest r' v:Nat}(hk:k<l.length)(h:WB^(k+1)*nv (l.drop (k+1))*v+WB^(k+1)*rest+nv (l.take (k+1))=V)(hx:l.getD k 0=x)(hs:rest*WB+x=d*v+r'):
  WB^k*nv ((l.set k d).drop k)*v+WB^k*r'+nv ((l.set k d).take k)=V:=by
 have e1:(l.set k d).take k=l.take k:=by rw [List.take_set_of_le (b8 k)]
 have e2:(l.set k d).drop k=d::l.drop (k+1):=by
  rw [m4 (by rw [List.length_set];exact hk)]
  congr 1
  ·simp
  ·rw [List.drop_set_of_lt (by omega)]
 rw [e1,e2,qK,←h,fB l k hk,hx,cB]
 have e3:WB^k*(rest*WB+x)=WB^k*(d*v+r'):=by rw [hs]
 have e4:WB^k*(d+WB*nv (l.drop (k+1)))*v=WB^k*WB*nv (l.drop (k+1))*v+WB^k*(d*v):=by
  rw [cT,dX,Nat.add_comm,←bH (WB^k) WB,bH (WB^k) d]
 have e5:WB^k*WB*rest=WB^k*(rest*WB):=by rw [bH,bY WB rest]
 rw [e4,e5]
 simp only [cT] at e3
 omega
theorem LT {w:a6}(hx:Rd w A n cap xs)(hl:n≤1099511627775){v:Nat}(hv0:v≠0)(hvb:v≤18446744073709551615):
  aO aF 235 #[.slice A n cap,.int .u64 (v:Int)] w (a1J w (nv xs/v) (nv xs%v)):=by
 have h0:((v:Int)==0)=false:=by simp;omega
 go_enter Tryz.func235,Tryz.ntmps235
 go_wp2_with fail
 refine (mW hx).mono ?_
 rintro e w1 ⟨A1,n1,c1,rfl,hn1,hr1,ho1,hx1⟩
 have hn1b:n1≤n:=by
  have:=iM hx.wf
  rw [hn1.out,←hx.len];exact this
 clear h0
 have h0:((v:Int)==0)=false:=by simp;omega
 go_wp2_with fail
 obtain⟨l0,hl0⟩:∃l0,wd (nv xs)=l0:=⟨_,rfl⟩
 have hnl0:Hid (nv l0=nv xs):=(show _=_ by rw [←hl0,gH])
 rw [hl0] at hr1 ho1
 have hll0:Hid (l0.length=n1):=hr1.len
 have hwl0:=hr1.wf
 clear hr1 hl0
 go_loopw [9,8] (fun a b wr=>∃(k r:Nat) (l:List Nat),k≤n1∧r<v∧a= .int .i64 ((k:Int)-1)∧b= .int .u64 (r:Int)∧Hid (l.length=n1)∧Wf l∧Own wr w.heap.size 65 1 A1 n1 c1 (l.map aW)∧
  Hid (WB^k*nv (l.drop k)*v+WB^k*r+nv (l.take k)=nv xs)∧Ext w wr) (fun a b wr=>(intOf a+1).toNat)
 case atStart=>exact⟨n1,0,l0,b8 _,by omega,by go_num,rfl,hll0,hwl0,ho1,(show _=_ by rw [List.drop_of_length_le (by rw [hll0.out];exact b8 _),List.take_of_length_le (by rw [hll0.out];exact b8 _),hnl0.out];simp [nv]),hx1⟩
 case round=>
  obtain⟨k,r,l,hk,hr,rfl,rfl,hll,hwl,ho,hV,hxr⟩:=hrel
  clear hll0 hwl0 ho1 hnl0
  by_cases hk0:0<k
  ·obtain⟨k,rfl⟩:∃j,k=j+1:=⟨k-1,by omega⟩
   obtain⟨g,x,rfl,hg,hxk,hxb,hc,hfr,hset⟩:=ho.word hwl (i:=k) (by omega)
   have ek:((k+1:Nat):Int)-1=(k:Int):=by omega
   rw [ek]
   go_wp2_with fail
   refine (MZ hr hxb hvb _).mono ?_
   rintro e w2 ⟨d,r',hd,hr',hdb,hrv,rfl,m2,hm2⟩
   have hx2:Ext wr w2:=by rw [hm2];exact (Ext.refl wr).drewN m2
   clear hm2
   have ho2:=ho.ext hx2
   obtain⟨g',x',hg',_,_,_,hc2,hfr2,hset2⟩:=ho2.word hwl (i:=k) (by omega)
   cases hg'
   go_wp2_with fail
   go_roundw
   case rel=>
    refine⟨k,r',l.set k d,by omega,hrv,rfl,rfl,(show _=_ by rw [List.length_set];exact hll.out),gS hwl k (by rw [cF];omega),hset2 d,?_,(hxr.trans hx2).setCell hg _⟩
    refine OT (by rw [hll.out];omega) hV.out hxk.out ?_
    rw [hd.out,hr'.out,bY _ v];exact (iA _ _).symm
   case measure=>simp [intOf]
  ·obtain rfl:k=0:=by omega
   have hVl:nv l*v+r=nv xs:=by simpa [nv] using hV.out
   have hq:nv l=nv xs/v:=by rw [←hVl,bY,nH (by omega),gT hr];rfl
   have hrr:Hid (r=nv xs%v):=(show _=_ by rw [←hVl,bY,wN,fG hr])
   have HQ:=Lib.hid hq
   clear hq hVl
   have ek:((0:Nat):Int)-1= -1:=rfl
   rw [ek]
   go_wp2_with fail
   refine (mW (ho.rd hwl)).mono ?_
   rintro e w2 ⟨A2,n2,c2,rfl,hn2,hr2,ho2,hx2⟩
   rw [HQ.out] at hn2 hr2 ho2
   go_wp2_with fail
   go_ret3
   exact⟨A2,n2,c2,r,rfl,hrr,by omega,hn2,hr2,ho2.mono hxr.size,hxr.trans hx2⟩
def a1M (w:a6)(v n:Nat)(e:fA)(w':a6):Prop:=
 ∃g zs,e= .returned (.slice (some ⟨g,0,none⟩) n n)∧w.heap.size≤g∧Bk w' g 65 (zs.map aW)∧Wf zs∧Hid (zs.length=n)∧Hid (nv zs=v)∧Ext w w'
theorem R9 (hs:s<64):x*2^s%18446744073709551616=(x%2^(64-s))*2^s∧x*2^s=x*2^s%18446744073709551616+WB*(x/2^(64-s)):=by
 have e:18446744073709551616=2^(64-s)*2^s:=by rw [←bX,jP (by omega)]
 have h1:x*2^s%18446744073709551616=(x%2^(64-s))*2^s:=by rw [e,sK]
 refine⟨h1,?_⟩
 rw [h1,cF,e]
 have h2:=jY x (2^(64-s))
 conv=>lhs;rw [←h2]
 rw [dX,bH,bY (x/2^(64-s)),←bH]
theorem RG {c r30 r32:Nat}(hs:s<64)(hx:xs.getD i 0=x)(hi:i<l.length)(hc:c<2^s)(h30:r30=x*2^s%18446744073709551616)(h32:r32=r30||| c)(hd:d=x/2^(64-s))(h:nv (l.take i)+WB^i*c=nv (xs.take i)*2^s):nv ((l.set i r32).take (i+1))+WB^(i+1)*d=nv (xs.take (i+1))*2^s:=by
 obtain⟨e1,e2⟩:=R9 (x:=x) hs
 have e3:r32=r30+c:=by rw [h32,h30,e1,vG hc]
 have e4:nv (xs.take (i+1))=nv (xs.take i)+WB^i*x:=by
  by_cases hi2:i<xs.length
  ·rw [fB xs i hi2,hx]
  ·have:x=0:=by rw [←hx];simp [bC,kM (show xs.length≤i by omega)]
   rw [this,List.take_of_length_le (by omega),List.take_of_length_le (by omega)];simp
 rw [CD hi,e4,dX,←h,e3,hd,cB,bH (WB^i) WB,bH (WB^i) x,e2,←h30]
 simp only [cT]
 omega
theorem RH (hx:x≤18446744073709551615)(hs:s<64):x/2^(64-s)<2^s:=by
 refine wP ?_
 rw [←bX,jP (by omega)]
 omega
set_option maxHeartbeats 1000000 in
theorem LS {w:a6}(hx:Rd w A m cap xs)(_hl:m≤1099511627775)(hs:s<64)(hn:n≤1099511627776)(hmn:m≤n)(hfit:nv xs*2^s<WB^n):
  aO aF 266 #[.slice A m cap,.int .u64 (s:Int),.int .i64 (n:Int)] w (a1M w (nv xs*2^s) n):=by
 have hlx:=Lib.hid hx.len
 have HF:=Lib.hid hfit
 clear hfit
 have hsi:(s:Int)≤63:=by omega
 have hmk:=lM (P:=aF) Tryz.underlying22 jE rfl (by decide) (n:Int) (by omega) (by omega)
 rw [gV] at hmk
 go_enter Tryz.func266,Tryz.ntmps266
 go_wp2_with fail
 clear hmk
 obtain⟨g,hg⟩:∃g,w.heap.size=g:=⟨_,rfl⟩
 rw [hg]
 obtain⟨wa,hwa⟩:∃wa,w.alloc (.cells (zc (.int .u64 0) n) 65)=wa:=⟨_,rfl⟩
 rw [hwa]
 have hbk:Bk wa g 65 ((bP n 0).map aW):=by
  rw [←hwa,←hg,←kR];exact Bk.new' _ _ _
 have hea:Ext w wa:=by rw [←hwa];exact (Ext.refl w).alloc _
 have hgs:w.heap.size≤g:=by rw [hg];exact b8 _
 clear hg hwa
 go_loopw [15,8] (fun u v wr=>∃(i c:Nat) (l:List Nat),i≤n∧c≤18446744073709551615∧Hid (c<2^s)∧u= .int .i64 (i:Int)∧v= .int .u64 (c:Int)∧Hid (l.length=n)∧Wf l∧Bk wr g 65 (l.map aW)∧
  Hid (nv (l.take i)+WB^i*c=nv (xs.take i)*2^s)∧Ext w wr) (fun u v wr=>n-(intOf u).toNat)
 case atStart=>exact⟨0,0,_,bW _,bW _,dW s,rfl,rfl,List.length_replicate,pM _,hbk,by simp [Hid,nv],hea⟩
 case round=>
  obtain⟨i,c,l,hi,hcb,hc,rfl,rfl,hll,hwl,hb,hv,hr⟩:=hrel
  clear hbk hea
  by_cases hin:i<n
  ·obtain⟨o,ho,_,hco⟩:=hb.word hwl (i:=i) (by rw [hll.out];omega)
   have hfr:=hb.frozen i
   have key:∀x r32 d r30:Nat,xs.getD i 0=x→r30=x*2^s%18446744073709551616→r32=r30||| c→d=x/2^(64-s)→r32≤18446744073709551615→x≤18446744073709551615→∀w2,Upd g wr w2→Bk w2 g 65 ((l.set i r32).map aW)→Ext w w2→
     ∃(j c:Nat) (l:List Nat),j≤n∧c≤18446744073709551615∧Hid (c<2^s)∧bV .i64 ((i:Int)+1)= .int .i64 (j:Int)∧bV .u64 (d:Int)= .int .u64 (c:Int)∧Hid (l.length=n)∧Wf l∧Bk w2 g 65 (l.map aW)∧
      Hid (nv (l.take j)+WB^j*c=nv (xs.take j)*2^s)∧Ext w w2:=by
    intro x r32 d r30 h1 h2 h3 h4 h5 h6 w2 hu hb2 he
    have h7:=RH h6 hs
    rw [←h4] at h7
    have h8:2^s≤2^63:=dU (by omega) (by omega)
    exact⟨i+1,d,l.set i r32,by omega,by omega,h7,rfl,rfl,(show _=_ by rw [List.length_set];exact hll.out),gS hwl i (by rw [cF];omega),hb2,RG hs h1 (by rw [hll.out];omega) hc.out h2 h3 h4 hv.out,he⟩
   have KEY:=Lib.hid key
   clear key
   have hs64:s≤64:=by omega
   by_cases him:i<m
   ·obtain⟨a,x,rfl,hxk,hxb,hcx⟩:=(hx.ext hr).get (i:=i) (by omega)
    by_cases hs0:0<s
    ·go_wp2_with (first
      | ((with_reducible refine dZ (some 30) ?_);refine eS rfl rfl rfl rfl rfl (nT hs64) ?_;intro r30 h30 hb30)
      | ((with_reducible refine dZ (some 32) ?_);refine eS rfl rfl rfl rfl rfl (rH hb30 hcb) ?_ (hf:=(by have:=qZ (n:=64) (x:=r30) (y:=c) (by omega) (by omega);omega));intro r32 h32 hb32)
      | ((with_reducible refine dZ (some 38) ?_);refine eS rfl rfl rfl rfl rfl (rG (x:=64) (y:=s) (by omega)) ?_;intro r38 h38 hb38;obtain rfl:r38=64-s:=(by have:=h38.out;omega))
      | ((with_reducible refine dZ (some 39) ?_);refine eS rfl rfl rfl rfl rfl (l8 (s:=64-s) (by omega)) ?_ (hf:=(by have:=fI x (2^(64-s));omega));intro d hd hdb))
     go_roundw
     case rel=>exact KEY.out x r32 d r30 hxk.out h30.out h32.out hd.out hb32 hxb _ ((Upd.refl _ _).setCell _ _) (by rw [←eG];exact hb.set _ _) (hr.setCell hgs _)
     case measure=>simp [intOf];omega
    ·go_wp2_with (first
      | ((with_reducible refine dZ (some 30) ?_);refine eS rfl rfl rfl rfl rfl (nT hs64) ?_;intro r30 h30 hb30)
      | ((with_reducible refine dZ (some 32) ?_);refine eS rfl rfl rfl rfl rfl (rH hb30 hcb) ?_ (hf:=(by have:=qZ (n:=64) (x:=r30) (y:=c) (by omega) (by omega);omega));intro r32 h32 hb32))
     go_roundw
     case rel=>exact KEY.out x r32 0 r30 hxk.out h30.out h32.out (by rw [show s=0 from by omega,gT (by omega)]) hb32 hxb _ ((Upd.refl _ _).setCell _ _) (by rw [←eG];exact hb.set _ _) (hr.setCell hgs _)
     case measure=>simp [intOf];omega
   ·have hx0:Hid (xs.getD i 0=0):=by
     show _=_
     rw [bC,kM (by rw [hlx.out];omega)];rfl
    by_cases hs0:0<s
    ·go_wp2_with (first
      | ((with_reducible refine dZ (some 30) ?_);refine eS rfl rfl rfl rfl rfl (nT (x:=0) hs64) ?_;intro r30 h30 hb30)
      | ((with_reducible refine dZ (some 32) ?_);refine eS rfl rfl rfl rfl rfl (rH hb30 hcb) ?_ (hf:=(by have:=qZ (n:=64) (x:=r30) (y:=c) (by omega) (by omega);omega));intro r32 h32 hb32)
      | ((with_reducible refine dZ (some 38) ?_);refine eS rfl rfl rfl rfl rfl (rG (x:=64) (y:=s) (by omega)) ?_;intro r38 h38 hb38;obtain rfl:r38=64-s:=(by have:=h38.out;omega))
      | ((with_reducible refine dZ (some 39) ?_);refine eS rfl rfl rfl rfl rfl (l8 (x:=0) (s:=64-s) (by omega)) ?_ (hf:=(by have:=fI 0 (2^(64-s));omega));intro d hd hdb))
     go_roundw
     case rel=>exact KEY.out 0 r32 d r30 hx0.out h30.out h32.out hd.out hb32 (by omega) _ ((Upd.refl _ _).setCell _ _) (by rw [←eG];exact hb.set _ _) (hr.setCell hgs _)
     case measure=>simp [intOf];omega
    ·go_wp2_with (first
      | ((with_reducible refine dZ (some 30) ?_);refine eS rfl rfl rfl rfl rfl (nT (x:=0) hs64) ?_;intro r30 h30 hb30)
      | ((with_reducible refine dZ (some 32) ?_);refine eS rfl rfl rfl rfl rfl (rH hb30 hcb) ?_ (hf:=(by have:=qZ (n:=64) (x:=r30) (y:=c) (by omega) (by omega);omega));intro r32 h32 hb32))
     go_roundw
     case rel=>exact KEY.out 0 r32 0 r30 hx0.out h30.out h32.out (by simp) hb32 (by omega) _ ((Upd.refl _ _).setCell _ _) (by rw [←eG];exact hb.set _ _) (hr.setCell hgs _)
     case measure=>simp [intOf];omega
  ·obtain rfl:i=n:=by omega
   go_wp2_with fail
   go_ret
   refine⟨g,l,rfl,hgs,hb,hwl,hll,?_,hr⟩
   have h1:=hv.out
   rw [List.take_of_length_le (by rw [hll.out];exact b8 _),List.take_of_length_le (by rw [hlx.out];exact hmn)] at h1
   have h2:=HF.out
   show _=_
   rcases mH c with h0 | h0
   ·rw [h0,iG] at h1;exact h1
   ·have:=Nat.le_mul_of_pos_right (WB^i) h0
    omega
def NY (g:Nat)(zs:List Nat)(K:Nat)(P:Nat→Nat→Prop)(w w':a6):Prop:=
 ∃zs' c,Bk w' g 65 (zs'.map aW)∧Wf zs'∧Hid (zs'.length=zs.length)∧Hid (zs'.drop K=zs.drop K)∧c≤1∧Hid (P (nv zs') c)∧Upd g w w'
theorem zI (h:i<K)(x:Nat):(l.set i x).drop K=l.drop K:=by rw [List.drop_set_of_lt h]
set_option maxHeartbeats 1000000 in
theorem a0u {w:a6}{o:Nat}(hz:Bk w g 65 (zs.map aW))(hwz:Wf zs)(hy:Rd w B m cap' ys)(hne:∀a,B=some a→a.block≠g)(hK:o+m+1≤zs.length)(hm:m≤1099511627776)(_ho:o≤1099511627776):
  aO aF 269 #[.slice (some ⟨g,o,none⟩) (m+1) cap,.slice B m cap'] w (fun e w'=>e= .returned (.tuple #[])∧NY g zs (o+m+1) (fun v c=>v+WB^(o+m+1)*c=nv zs+WB^o*nv ys) w w'):=by
 have hly:=Lib.hid hy.len
 have HK:=Lib.hid hK
 clear hK
 go_enter Tryz.func269,Tryz.ntmps269
 go_wp2_with fail
 go_loopw [8,4] (fun u v wr=>∃(i c:Nat) (l:List Nat),i≤m∧c≤1∧u= .int .i64 (i:Int)∧v= .int .u64 (c:Int)∧Hid (l.length=zs.length)∧Wf l∧Bk wr g 65 (l.map aW)∧Hid (l.drop (o+m+1)=zs.drop (o+m+1))∧
  Hid (nv l+WB^(o+i)*c=nv zs+WB^o*nv (ys.take i))∧Upd g w wr) (fun u v wr=>m-(intOf u).toNat)
 case atStart=>exact⟨0,0,zs,bW _,bW _,rfl,rfl,rfl,hwz,hz,rfl,by simp [Hid,nv],Upd.refl _ _⟩
 case round=>
  obtain⟨i,c,l,hi,hc,rfl,rfl,hll,hwl,hb,hdr,hv,hr⟩:=hrel
  by_cases him:i<m
  ·obtain⟨a,y,rfl,hyk,hyb,hcy⟩:=(hy.upd hr hne).get (i:=i) (by omega)
   obtain⟨z,hzk,hzb,hcz⟩:=hb.word hwl (i:=o+i) (by rw [hll.out];have:=HK.out;omega)
   have hfr:=hb.frozen (o+i)
   obtain⟨s,d,hs,hsb,hd,hadd⟩:=zZ hc hzb hyb
   go_wp2_with fail
   go_region
   go_wp2_with fail
   go_roundw
   case rel=>exact⟨i+1,d,l.set (o+i) s,by omega,hd,by go_num,rfl,by show _=_;rw [List.length_set];exact hll.out,gS hwl _ (by rw [cF];omega),by rw [←eG];exact (hb.set _ _).drew,
    (show _=_ by rw [zI (by omega)];exact hdr.out),ND (by rw [hll.out];have:=HK.out;omega) hv.out hzk.out (by rw [hly.out];omega) hyk.out hs.out,(hr.setCell _ _).drew⟩
   case measure=>simp [intOf];omega
  ·obtain rfl:i=m:=by omega
   obtain⟨z,hzk,hzb,hcz⟩:=hb.word hwl (i:=o+i) (by rw [hll.out];have:=HK.out;omega)
   have hfr:=hb.frozen (o+i)
   go_wp2_with ((with_reducible refine dZ (some 34) ?_);refine eS rfl rfl rfl rfl rfl BF ?_;intro s hs hsb)
   go_end0
   refine⟨rfl,l.set (o+i) s,(z+c)/18446744073709551616,by rw [←eG];exact hb.set _ _,gS hwl _ (by rw [cF];omega),(show _=_ by rw [List.length_set];exact hll.out),(show _=_ by rw [zI (by omega)];exact hdr.out),by omega,?_,hr.setCell _ _⟩
   have h:=NC (k:=o+i) (c:=c) (s:=s) (d:=(z+c)/18446744073709551616) (by rw [hll.out];have:=HK.out;omega) hv.out hzk.out (by rw [hs.out,cF];exact jY _ _)
   rwa [List.take_of_length_le (by rw [hly.out];exact b8 _)] at h
theorem QK {o c t z lo:Nat}(hi2:o+i<l.length)(h:nv l+WB^o*(d*nv (ys.take i))=V+WB^(o+i)*(c+t))(hz:l.getD (o+i) 0=z)(hy:i<ys.length)(hyk:ys.getD i 0=y)(hp:lo+WB*hi=d*y)(ha:lo2+WB*cc=lo+c)(hs:s+lo2+t=z+WB*u):nv (l.set (o+i) s)+WB^o*(d*nv (ys.take (i+1)))=V+WB^(o+i+1)*((hi+cc)+u):=by
 have e1:=nW hi2 s
 rw [hz] at e1
 rw [fB ys i hy,hyk,cT d,cT (WB^o),show WB^o*(d*(WB^i*y))=WB^(o+i)*(d*y) from by rw [bX,Nat.mul_left_comm d,←bH (WB^o)],cB,bH (WB^(o+i)),←hp]
 have e2:WB^(o+i)*(s+lo2+t)=WB^(o+i)*(z+WB*u):=by rw [hs]
 have e3:WB^(o+i)*(lo2+WB*cc)=WB^(o+i)*(lo+c):=by rw [ha]
 simp only [cT] at e2 e3 h⊢
 omega
theorem QJ {c t z A:Nat}(hi2:k<l.length)(h:nv l+A=V+WB^k*(c+t))(hz:l.getD k 0=z)(hs:s+c+t=z+WB*u):
  nv (l.set k s)+A=V+WB^(k+1)*u:=by
 have e1:=nW hi2 s
 rw [hz] at e1
 rw [cB,bH]
 have e2:WB^k*(s+c+t)=WB^k*(z+WB*u):=by rw [hs]
 simp only [cT] at e2 h⊢
 omega
theorem QM {lo c:Nat}(hd:d≤18446744073709551615)(hy:y≤18446744073709551615)(hc:c≤18446744073709551615)(hp:lo+WB*hi=d*y)(ha:lo2+WB*cc=lo+c):hi+cc≤18446744073709551615:=by
 have h1:d*y≤18446744073709551615*18446744073709551615:=jQ hd hy
 rw [cF] at hp ha
 omega
set_option maxHeartbeats 2000000 in
theorem a0r {w:a6}{o:Nat}(hz:Bk w g 65 (zs.map aW))(hwz:Wf zs)(hy:Rd w B m cap' ys)(hne:∀a,B=some a→a.block≠g)(hK:o+m+1≤zs.length)(hm:m≤1099511627776)(_ho:o≤1099511627776)(hd:d≤18446744073709551615):
  aO aF 268 #[.slice (some ⟨g,o,none⟩) (m+1) cap,.slice B m cap',.int .u64 (d:Int)] w (fun e w'=>∃b:Bool,e= .returned (.bool b)∧NY g zs (o+m+1) (fun v c=>(b=true↔c=1)∧v+WB^o*(d*nv ys)=nv zs+WB^(o+m+1)*c) w w'):=by
 have hly:=Lib.hid hy.len
 have HK:=Lib.hid hK
 clear hK
 go_enter Tryz.func268,Tryz.ntmps268
 go_wp2_with fail
 go_loopw [16,7,8] (fun u v x wr=>∃(i c t:Nat) (l:List Nat),i≤m∧c≤18446744073709551615∧t≤1∧u= .int .i64 (i:Int)∧v= .int .u64 (c:Int)∧x= .int .u64 (t:Int)∧Hid (l.length=zs.length)∧Wf l∧Bk wr g 65 (l.map aW)∧Hid (l.drop (o+m+1)=zs.drop (o+m+1))∧
  Hid (nv l+WB^o*(d*nv (ys.take i))=nv zs+WB^(o+i)*(c+t))∧Upd g w wr) (fun u v x wr=>m-(intOf u).toNat)
 case atStart=>exact⟨0,0,0,zs,bW _,bW _,bW _,rfl,rfl,rfl,rfl,hwz,hz,rfl,by simp [Hid,nv],Upd.refl _ _⟩
 case round=>
  obtain⟨i,c,t,l,hi,hc,ht,rfl,rfl,rfl,hll,hwl,hb,hdr,hv,hr⟩:=hrel
  by_cases him:i<m
  ·obtain⟨a,y,rfl,hyk,hyb,hcy⟩:=(hy.upd hr hne).get (i:=i) (by omega)
   obtain⟨z,hzk,hzb,hcz⟩:=hb.word hwl (i:=o+i) (by rw [hll.out];have:=HK.out;omega)
   have hfr:=hb.frozen (o+i)
   go_wp2_with fail
   refine (bits_Mul64 d y hd hyb _).mono ?_
   rintro e w1 ⟨hi',lo,hp,hhb,hlb,rfl,rfl⟩
   obtain⟨lo2,cc,hlo2,hlo2b,hccb,hadd⟩:=wE hlb hc
   obtain⟨s,u,hs,hsb,hu,hsub⟩:=xI ht hzb hlo2b
   have hcar:(hi':Int)+(cc:Int)≤18446744073709551615:=by have:=QM hd hyb hc hp.out hlo2.out;omega
   go_wp2_with fail
   go_roundw
   case rel=>exact⟨i+1,hi'+cc,u,l.set (o+i) s,by omega,by omega,hu,by go_num,by go_num,rfl,by show _=_;rw [List.length_set];exact hll.out,gS hwl _ (by rw [cF];omega),by rw [←eG];exact (hb.set _ _),
    (show _=_ by rw [zI (by omega)];exact hdr.out),QK (by rw [hll.out];have:=HK.out;omega) hv.out hzk.out (by rw [hly.out];omega) hyk.out hp.out hlo2.out hs.out,(hr.setCell _ _)⟩
   case measure=>simp [intOf];omega
  ·obtain rfl:i=m:=by omega
   obtain⟨z,hzk,hzb,hcz⟩:=hb.word hwl (i:=o+i) (by rw [hll.out];have:=HK.out;omega)
   have hfr:=hb.frozen (o+i)
   obtain⟨s,u,hs,hsb,hu,hsub⟩:=xI ht hzb hc
   have hfin:=QJ (k:=o+i) (by rw [hll.out];have:=HK.out;omega) hv.out hzk.out hs.out
   rw [List.take_of_length_le (by rw [hly.out];exact b8 _)] at hfin
   have HFIN:=Lib.hid hfin
   clear hfin
   go_wp2_with fail
   go_ret
   refine⟨_,rfl,l.set (o+i) s,u,by rw [←eG];exact hb.set _ _,gS hwl _ (by rw [cF];omega),(show _=_ by rw [List.length_set];exact hll.out),(show _=_ by rw [zI (by omega)];exact hdr.out),hu,⟨?_,HFIN.out⟩,hr.setCell _ _⟩
   simp
   omega
def NX (u2 u1 u0 v1 v0:Nat)(w:a6)(e:fA)(w':a6):Prop:=
 ∃d:Nat,e= .returned (.int .u64 (d:Int))∧d≤18446744073709551615∧Hid (d*(v1*WB+v0)≤(u2*WB+u1)*WB+u0)∧Hid (d=18446744073709551615∨(u2*WB+u1)*WB+u0<(d+1)*(v1*WB+v0))∧∃m,w'=w.drewN m
theorem Y9 {D T:Nat}(h1:d≤18446744073709551615)(h2:d*V≤T)(h3:d=18446744073709551615∨T<(d+1)*V)(k1:D≤18446744073709551615)(k2:D*V≤T)(k3:D=18446744073709551615∨T<(D+1)*V):d=D:=by
 have key:∀a b:Nat,a≤18446744073709551615→a*V≤T→(b=18446744073709551615∨T<(b+1)*V)→a≤b:=by
  intro a b ha h k
  rcases k with k | k
  ·omega
  ·refine pQ (fun hlt=>?_)
   have:=eA V (oH hlt)
   rw [Nat.succ_eq_add_one] at this
   omega
 exact Nat.le_antisymm (key _ _ h1 h2 k3) (key _ _ k1 k2 h3)
theorem YC (T V:Nat)(hV:0<V):∃D:Nat,D≤18446744073709551615∧D*V≤T∧(D=18446744073709551615∨T<(D+1)*V):=by
 by_cases h:T/V≤18446744073709551615
 ·exact⟨T/V,h,Nat.div_mul_le_self _ _,bR (by rw [bY];exact wO T hV)⟩
 ·refine⟨18446744073709551615,b8 _,?_,cE rfl⟩
  have h1:=Nat.div_mul_le_self T V
  have h2:=eA V (Nat.le_of_lt (oI h))
  omega
structure Gs (u2 u1 u0 v1 v0 d rest:Nat):Prop where
 eq:d*v1+rest=u2*WB+u1
 top:d=18446744073709551615∨(u2*WB+u1)*WB+u0<(d+1)*(v1*WB+v0)
theorem Gs.done {rest:Nat}(h:Gs u2 u1 u0 v1 v0 d rest)(hd:d*v0≤rest*WB+u0):d*(v1*WB+v0)≤(u2*WB+u1)*WB+u0:=by
 rw [←h.eq,dX,cT,←bH]
 omega
theorem Gs.step {rest:Nat}(h:Gs u2 u1 u0 v1 v0 (d+1) rest)(hd:rest*WB+u0<(d+1)*v0):Gs u2 u1 u0 v1 v0 d (rest+v1):=by
 refine⟨?_,bR ?_⟩
 ·rw [←h.eq,lZ];omega
 ·rw [←h.eq,cT,dX,←bH]
  omega
theorem Gs.cmp {lo p rest:Nat}(hp:lo+WB*hi=p)(hlo:lo≤18446744073709551615)(hu:u0≤18446744073709551615):(hi<rest∨hi=rest∧lo≤u0)↔p≤rest*WB+u0:=by
 rw [←hp,cF]
 omega
theorem Gs.over {rest:Nat}(hd:d≤18446744073709551615)(hv:v0≤18446744073709551615)(hr:18446744073709551616≤rest):d*v0≤rest*WB+u0:=by
 have h1:d*v0≤18446744073709551615*18446744073709551615:=jQ hd hv
 rw [cF]
 omega
theorem a0t (h2:u2≤v1)(h1:u1≤18446744073709551615)(h0:u0≤18446744073709551615)(hv1:v1≤18446744073709551615)(hv0:v0≤18446744073709551615)(hpos:0<v1)(w:a6):
  aO aF 267 #[.int .u64 (u2:Int),.int .u64 (u1:Int),.int .u64 (u0:Int),.int .u64 (v1:Int),.int .u64 (v0:Int)] w (NX u2 u1 u0 v1 v0 w):=by
 go_enter Tryz.func267,Tryz.ntmps267
 go_wp2_with fail
 go_step3
 go_upto_if 21 with (fail)
 go_cut [11,12] (fun a b wc=>∃d r:Nat,a= .int .u64 (d:Int)∧b= .int .u64 (r:Int)∧d≤18446744073709551615∧r≤18446744073709551615∧Hid (Gs u2 u1 u0 v1 v0 d r)∧∃m,wc=w.drewN m)
 case first=>
  by_cases hlt:v1≤u2
  ·obtain⟨s,c,hs,hsb,hc,hadd⟩:=wE h1 hv1
   have hG:Hid (Gs u2 u1 u0 v1 v0 18446744073709551615 (u1+v1)):=by
    refine⟨?_,cE rfl⟩
    obtain rfl:u2=v1:=by omega
    rw [cF];omega
   by_cases hc0:c=0
   ·subst hc0
    have b0:((0:Int) != 0)=false:=rfl
    go_wp2_with fail
    go_meet
    case rel=>
     have e:s=u1+v1:=by have:=hs.out;omega
     exact⟨18446744073709551615,s,rfl,rfl,by omega,hsb,by rw [e];exact hG,0,rfl⟩
   ·obtain rfl:c=1:=by omega
    have b1:((1:Int) != 0)=true:=rfl
    go_wp2_with fail
    simp only [Exit.noGoto_ret]
    go_ret
    exact⟨18446744073709551615,rfl,by omega,hG.out.done (Gs.over (by omega) hv0 (by have:=hs.out;rw [cF] at this;omega)),cE rfl,0,rfl⟩
  ·go_wp2_with fail
   refine (MZ (show u2<v1 by omega) h1 hv1 _).mono ?_
   rintro e w1 ⟨d,r,hd,hr,hdb,hrb,rfl,m1,rfl⟩
   go_wp2_with fail
   go_meet
   case rel=>
    have e1:d*v1+r=u2*WB+u1:=by rw [hd.out,hr.out,bY];exact iA _ _
    refine⟨d,r,rfl,rfl,hdb,by omega,⟨e1,bR ?_⟩,m1,rfl⟩
    rw [←e1,dX,dX,Nat.one_mul,cT,←bH]
    have h3:r*WB+WB≤v1*WB:=by
     have:=eA WB (oH hrb)
     rwa [lZ] at this
    have h4:u0<WB:=by rw [cF];omega
    omega
 case rest=>
  obtain⟨d0,r0,rfl,rfl,hd0,hr0,hG0,hx0⟩:=hcut
  go_wp2_with fail
  go_step3
  go_wp2_with fail
  go_loopw [11,12] (fun a b wr=>∃d r:Nat,a= .int .u64 (d:Int)∧b= .int .u64 (r:Int)∧d≤18446744073709551615∧r≤18446744073709551615∧Hid (Gs u2 u1 u0 v1 v0 d r)∧wc=wr) (fun a b wr=>(intOf a).toNat)
  case atStart=>exact⟨d0,r0,rfl,rfl,hd0,hr0,hG0,rfl⟩
  case round=>
   obtain⟨d,r,rfl,rfl,hd,hr,hG,rfl⟩:=hrel
   clear hG0 hd0 hr0
   go_wp2_with fail
   refine (bits_Mul64 d v0 hd hv0 _).mono ?_
   rintro e w1 ⟨hi,lo,hp,hhb,hlb,rfl,rfl⟩
   have hcmp:=Lib.hid (Gs.cmp (rest:=r) hp.out hlb h0)
   have fin:∀d:Nat,d≤18446744073709551615→d*(v1*WB+v0)≤(u2*WB+u1)*WB+u0→(d=18446744073709551615∨(u2*WB+u1)*WB+u0<(d+1)*(v1*WB+v0))→NX u2 u1 u0 v1 v0 w (.returned (.int .u64 (d:Int))) wc:=fun d a b c=>⟨d,rfl,a,b,c,hx0⟩
   have FIN:=Lib.hid fin
   clear fin
   have bad:¬d*v0≤r*WB+u0→∃d',d=d'+1∧Gs u2 u1 u0 v1 v0 d' (r+v1):=by
    intro h
    cases d with
    | zero=>simp at h
    | succ d'=>exact⟨d',rfl,hG.out.step (by omega)⟩
   have BAD:=Lib.hid bad
   clear bad
   obtain⟨s,c,hs,hsb,hc,hadd⟩:=wE hr hv1
   by_cases hA:hi<r
   ·go_wp2_with fail
    go_ret
    exact FIN.out d hd (hG.out.done (hcmp.out.1 (cE hA))) hG.out.top
   ·by_cases hB:hi=r
    ·have b1:((hi:Int)==(r:Int))=true:=by simp [hB]
     have HB:=Lib.hid hB
     clear hB
     by_cases hC:lo≤u0
     ·go_wp2_with fail
      go_ret
      exact FIN.out d hd (hG.out.done (hcmp.out.1 (bR ⟨HB.out,hC⟩))) hG.out.top
     ·obtain⟨d',rfl,hG'⟩:=BAD.out (fun h=>by have:=hcmp.out.2 h;have:=HB.out;omega)
      have HG':=Lib.hid hG'
      clear hG'
      have ed:((d'+1:Nat):Int)-1=(d':Int):=by omega
      by_cases hc0:c=0
      ·subst hc0
       have b0:((0:Int) != 0)=false:=rfl
       go_wp2_with fail
       go_roundw
       case rel=>exact⟨d',s,rfl,rfl,by omega,hsb,by rw [show s=r+v1 from by have:=hs.out;omega];exact HG',trivial⟩
       case measure=>simp [intOf]
      ·obtain rfl:c=1:=by omega
       have b0:((1:Int) != 0)=true:=rfl
       go_wp2_with fail
       go_ret
       exact FIN.out d' (by omega) (HG'.out.done (Gs.over (by omega) hv0 (by have:=hs.out;rw [cF] at this;omega))) HG'.out.top
    ·have b1:((hi:Int)==(r:Int))=false:=by simp;omega
     obtain⟨d',rfl,hG'⟩:=BAD.out (fun h=>by have:=hcmp.out.2 h;omega)
     have HG':=Lib.hid hG'
     clear hG'
     have ed:((d'+1:Nat):Int)-1=(d':Int):=by omega
     by_cases hc0:c=0
     ·subst hc0
      have b0:((0:Int) != 0)=false:=rfl
      go_wp2_with fail
      go_roundw
      case rel=>exact⟨d',s,rfl,rfl,by omega,hsb,by rw [show s=r+v1 from by have:=hs.out;omega];exact HG',trivial⟩
      case measure=>simp [intOf]
     ·obtain rfl:c=1:=by omega
      have b0:((1:Int) != 0)=true:=rfl
      go_wp2_with fail
      go_ret
      exact FIN.out d' (by omega) (HG'.out.done (Gs.over (by omega) hv0 (by have:=hs.out;rw [cF] at this;omega))) HG'.out.top
theorem EU (h:n≤9223372036854775807):IntKind.i64.wrap (n:Int)=(n:Int):=by
 simp only [wR,uI,uH]
 simp
 omega
theorem XZ (hy:y≠0)(hx:x≤9223372036854775807)(P:cD)(t:aT)(w:a6):(binOp .quo t (.int .i64 (x:Int)) (.int .i64 (y:Int))).run P w= .ok (.int .i64 ((x/y:Nat):Int)) w:=by
 have h1:=fI x y
 have e:IntKind.i64.wrap ((x:Int).tdiv (y:Int))=((x/y:Nat):Int):=by
  have:(x:Int).tdiv (y:Int)=((x/y:Nat):Int):=by rw [AW (by omega)];simp
  rw [this,EU (by omega)]
 simp only [binOp,wM]
 simp [hy]
 rw [show (↑x/ ↑y:Int)=((x/y:Nat):Int) from by simp] at*
 simpa [AW] using e
theorem XY (hy:y≠0)(hx:x≤9223372036854775807)(P:cD)(t:aT)(w:a6):(binOp .rem t (.int .i64 (x:Int)) (.int .i64 (y:Int))).run P w= .ok (.int .i64 ((x%y:Nat):Int)) w:=by
 have h1:=Nat.mod_le x y
 have e:IntKind.i64.wrap ((x:Int).tmod (y:Int))=((x%y:Nat):Int):=by
  have:(x:Int).tmod (y:Int)=((x%y:Nat):Int):=by rw [Int.tmod_eq_emod_of_nonneg (by omega)];simp
  rw [this,EU (by omega)]
 simp only [binOp,wM]
 simp [hy]
 rw [show (↑x% ↑y:Int)=((x%y:Nat):Int) from by simp] at*
 simp [Int.tmod_eq_emod_of_nonneg]
theorem EX {w:a6}{Q:dR→Act→a6→Prop}(hgd:o.guard=none){x y:cS}(ho:o.op= .binOp op t x y ty){f:Nat}(hx:a.eval x=vx)(hy:a.eval y=vy)(hne:(op matches .eql | .neq)=false)(hr:∀(P:cD) (t:aT) (w:a6),(binOp op t vx vy).run P w= .ok (.int .i64 (f:Int)) w)(h:∀r:Nat,Hid (r=f)→wpList P ops Q rest (a.put o.dst (.int .i64 (r:Int))) w):wpList P ops Q (o::rest) a w:=
 EY hgd ho hx hy hne (fun w=>hr P t w) (h f rfl)
theorem a1o (hx:x≤18446744073709551615)(hy:y≤18446744073709551615):bits BinOp.or IntKind.u64 (x:Int) (y:Int)=((x||| y:Nat):Int):=by
 have e:IntKind.u64.wrap ((nL 64 (x:Int)||| nL 64 (y:Int)).toNat:Int)=((x||| y:Nat):Int):=by
  rw [BitVec.toNat_or,nV hx,nV hy,nN,fG (qZ (n:=64) (by omega) (by omega))]
 exact e
theorem OS (x k:Nat):IntKind.u64.wrap ((x:Int)*2^k)=((x*2^k%18446744073709551616:Nat):Int):=by
 rw [←nN];simp
theorem R4 (hs:s<64):x/2^s||| (y*2^(64-s)%18446744073709551616)=x/2^s+(y%2^s)*2^(64-s)∨18446744073709551616≤x:=by
 by_cases hx:x<18446744073709551616
 ·left
  have e:18446744073709551616=2^s*2^(64-s):=by rw [←bX,show s+(64-s)=64 from by omega]
  have h1:y*2^(64-s)%18446744073709551616=(y%2^s)*2^(64-s):=by rw [e,sK]
  have h2:x/2^s<2^(64-s):=wP (by rw [←e];exact hx)
  rw [h1,Nat.or_comm,vG h2,Nat.add_comm]
 ·right;omega
theorem GD {z:Nat}(hi:i<l.length)(hix:i<xs.length)(hx:xs.getD i 0=x)(_hy:xs.getD (i+1) 0=y)(hz:z=x/2^s+(y%2^s)*2^(64-s))(hs:s<64)(h:nv (l.take i)*2^s+r0=nv (xs.take i)+WB^i*(x%2^s)):nv ((l.set i z).take (i+1))*2^s+r0=nv (xs.take (i+1))+WB^(i+1)*(y%2^s):=by
 rw [CD hi,fB xs i hix,hx,dX]
 have e1:z*2^s=x/2^s*2^s+WB*(y%2^s):=by
  rw [hz,dX,bH,←bX,jP (by omega),←lY,bY WB]
 have e2:x/2^s*2^s+x%2^s=x:=by rw [bY];exact iA _ _
 have e3:WB^i*x=WB^i*(x/2^s*2^s)+WB^i*(x%2^s):=by rw [←cT,e2]
 rw [bH (WB^i) z,e1,e3,cB,bH (WB^i) WB,cT]
 omega
set_option maxHeartbeats 2000000 in
theorem K4 {w:a6}(hx:Rd w A m cap xs)(hl:m≤1099511627775)(hn:n≤9223372036854775807):
  aO aF 118 #[.slice A m cap,.int .i64 (n:Int)] w (E9 w (nv xs/2^n) 0):=by
 go_enter Tryz.func118,Tryz.ntmps118
 go_wp2_with fail
 refine (k9 hx).mono ?_
 rintro e w' ⟨k,hk,hkn,rfl,rfl⟩
 go_upto_region 4 with (first
  | ((with_reducible refine dZ (some 16) ?_);refine EX rfl rfl rfl rfl rfl (XZ (x:=n) (y:=64) (by omega) hn) ?_;intro q hq)
  | ((with_reducible refine dZ (some 18) ?_);refine EX rfl rfl rfl rfl rfl (XY (x:=n) (y:=64) (by omega) hn) ?_;intro s hs;have hs64:s<64:=(by rw [hs.out];exact eO _ (by omega));have hqb:q≤9223372036854775807:=(by have:=hq.out;omega)))
 have hnqs:Hid (n=64*q+s):=(show _=_ by rw [hq.out,hs.out];exact (iA _ _).symm)
 clear hq hs
 have hlx:=Lib.hid hx.len
 by_cases hkq:k≤q
 ·go_wp2_with fail
  go_ret2
  refine E8 (a1K ?_ (Ext.refl w))
  refine gT ?_
  rw [hnqs.out,bX,Nat.pow_mul,←lY]
  have h1:=kS (nv xs)
  rw [←hk.out] at h1
  have h2:WB^k≤WB^q:=dU gE hkq
  have h3:=Nat.le_mul_of_pos_right (WB^q) (dW s)
  omega
 ·obtain⟨p,hkp⟩:∃p,k=q+p:=⟨k-q,by omega⟩
  have hp:0<p:=by omega
  obtain⟨ys,hys⟩:∃ys,(xs.take k).drop q=ys:=⟨_,rfl⟩
  have hyl:Hid (ys.length=p):=(show _=_ by rw [←hys,cV,bJ,hlx.out];omega)
  have hyv:Hid (nv xs/2^n=nv ys/2^s):=by
   show _=_
   rw [hnqs.out,bX,Nat.pow_mul,←lY,←Nat.div_div_eq_div_mul]
   congr 1
   have h1:=oY hx.wf hk.out
   have h2:=oZ (xs.take k) q (by rw [bJ,hlx.out];omega)
   have h3:=m9 (sB hx.wf k) q
   rw [←h1,h2,hys,Nat.add_comm,nH (eP gE),gT h3,dN]
  have hyg:Hid (∀i,i<p→ys.getD i 0=xs.getD (q+i) 0):=by
   intro i hi
   rw [←hys]
   simp only [bC,oK,kJ]
   rw [if_pos (by omega)]
  clear hys hk
  have hmk:=lM (P:=aF) Tryz.underlying22 jE rfl (by decide) ((k:Int)-(q:Int)) (by omega) (by omega)
  have et:((k:Int)-(q:Int)).toNat=p:=by omega
  rw [et] at hmk
  clear et
  have hxn:=Lib.hid hnqs.out
  clear hnqs
  have hnk:¬(k:Int)≤(q:Int):=by omega
  have hnk0:¬(k:Int)-(q:Int)<0:=by omega
  have HL:=Lib.hid hl
  clear hqb hn
  have hkp1:k≤q+p:=by omega
  have hkp2:q+p≤k:=by omega
  clear hkp
  go_wp2_with fail
  clear hmk
  obtain⟨g,hg⟩:∃g,w.heap.size=g:=⟨_,rfl⟩
  rw [hg]
  obtain⟨wa,hwa⟩:∃wa,w.alloc (.cells (zc (.int .u64 0) p) 65)=wa:=⟨_,rfl⟩
  rw [hwa]
  have hbk:Bk wa g 65 ((bP p 0).map aW):=by
   rw [←hwa,←hg,←kR];exact Bk.new' _ _ _
  have hea:Ext w wa:=by rw [←hwa];exact (Ext.refl w).alloc _
  have hgs:w.heap.size≤g:=by rw [hg];exact b8 _
  clear hg hwa
  have hsb:(s:Int)≤63:=by omega
  have hs64':s≤64:=by omega
  go_loopw [29] (fun u wr=>∃(i:Nat) (l:List Nat),i≤p∧u= .int .i64 (i:Int)∧Hid (l.length=p)∧Wf l∧Bk wr g 65 (l.map aW)∧
   Hid (nv (l.take i)*2^s+ys.getD 0 0%2^s=nv (ys.take i)+WB^i*(ys.getD i 0%2^s))∧Ext w wr) (fun u wr=>p-(intOf u).toNat)
  case atStart=>exact⟨0,_,bW _,rfl,List.length_replicate,pM _,hbk,by simp [Hid,nv],hea⟩
  case round=>
   obtain⟨i,l,hi,rfl,hll,hwl,hb,hv,hr⟩:=hrel
   clear hbk hea
   by_cases hip:i<p
   ·obtain⟨a,x,rfl,hxk,hxb,hcx⟩:=(hx.ext hr).get (i:=q+i) (by omega)
    obtain⟨o,ho,_,hco⟩:=hb.word hwl (i:=i) (by rw [hll.out];omega)
    have hfr:=hb.frozen i
    have hxy:Hid (ys.getD i 0=x):=(show _=_ by rw [hyg.out i hip];exact hxk.out)
    by_cases hi1:i+1<p
    ·obtain⟨a',y,ha',hyk,hyb,hcy⟩:=(hx.ext hr).get (i:=q+i+1) (by omega)
     cases ha'
     have hyy:Hid (ys.getD (i+1) 0=y):=(show _=_ by rw [hyg.out (i+1) hi1];exact hyk.out)
     go_upto_region 12 with ((with_reducible refine dZ (some 41) ?_);refine eS rfl rfl rfl rfl rfl (l8 hs64') ?_ (hf:=(by have:=fI x (2^s);omega));intro z hz hzb)
     obtain⟨w2,hw2⟩:∃w2,wr.setCell ⟨g,i,none⟩ (.int .u64 (z:Int))=w2:=⟨_,rfl⟩
     rw [hw2]
     have hb2:Bk w2 g 65 ((l.set i z).map aW):=by rw [←hw2,←eG];exact hb.set i _
     have hr2:Ext w w2:=by rw [←hw2];exact hr.setCell hgs _
     have hwl2:Wf (l.set i z):=gS hwl i (by rw [cF];omega)
     have hll2:Hid ((l.set i z).length=p):=(show _=_ by rw [List.length_set];exact hll.out)
     have hz2:Hid ((l.set i z).getD i 0=z):=(show _=_ by have:=hll.out;simp [bC,this,hip])
     clear hw2
     obtain⟨z2,hzk2,hzb2,hcz2⟩:=hb2.word hwl2 (i:=i) (by rw [hll2.out];omega)
     obtain rfl:z2=z:=by rw [←hzk2.out,hz2.out]
     have hfr2:=hb2.frozen i
     obtain⟨a2,y2,ha2,hyk2,_,hcy2⟩:=(hx.ext hr2).get (i:=q+i+1) (by omega)
     cases ha2
     obtain rfl:y2=y:=by rw [←hyk2.out,hyk.out]
     clear hcy hco hb hr hfr hcx hzk2 hyk2
     have hcy4:w2.cell? (⟨a.block,a.off+(q+i+1),none⟩:aC)=some (.int .u64 (y2:Int)):=by simpa [oL] using hcy2
     clear hcy2
     have hmb:y2*2^(64-s)%18446744073709551616≤18446744073709551615:=by omega
     obtain⟨r,hrd⟩:∃r,z2||| (y2*2^(64-s)%18446744073709551616)=r:=⟨_,rfl⟩
     have hrb:r≤18446744073709551615:=by
      have:=qZ (n:=64) (x:=z2) (y:=y2*2^(64-s)%18446744073709551616) (by omega) (by omega)
      omega
     have hbits:Hid (bits BinOp.or IntKind.u64 (z2:Int) (IntKind.u64.wrap ((y2:Int)*2^(64-s)))=(r:Int)):=by
      show _=_
      rw [OS,a1o hzb hmb,hrd]
     have hsum:Hid (r=x/2^s+(y2%2^s)*2^(64-s)):=by
      show _=_
      rw [←hrd,hz.out]
      rcases R4 (x:=x) (y:=y2) hs64 with h | h
      ·exact h
      ·omega
     clear hrd hmb
     go_region
     rw [hbits.out]
     go_wp2_with fail
     go_roundw
     case rel=>
      refine⟨i+1,(l.set i z2).set i r,by omega,by go_num,(show _=_ by rw [List.length_set,hll2.out]),gS hwl2 i (by rw [cF];omega),by rw [←eG];exact (hb2.set i _).drew,?_,(hr2.setCell hgs _).drew⟩
      show _=_
      rw [List.set_set,hyy.out]
      exact GD (by rw [hll.out];omega) (by rw [hyl.out];omega) hxy.out hyy.out hsum.out hs64 (by rw [←hxy.out];exact hv.out)
     case measure=>simp [intOf];omega
    ·have hi2:¬(q:Int)+(i:Int)+1<(k:Int):=by omega
     have hyz:Hid (ys.getD (i+1) 0=0):=by
      show _=_
      rw [bC,kM (by rw [hyl.out];omega)];rfl
     go_wp2_with ((with_reducible refine dZ (some 41) ?_);refine eS rfl rfl rfl rfl rfl (l8 hs64') ?_ (hf:=(by have:=fI x (2^s);omega));intro z hz hzb)
     go_roundw
     case rel=>
      refine⟨i+1,l.set i z,by omega,by go_num,(show _=_ by rw [List.length_set,hll.out]),gS hwl i (by rw [cF];omega),by rw [←eG];exact hb.set i _,?_,hr.setCell hgs _⟩
      have:=GD (l:=l) (y:=0) (z:=z) (by rw [hll.out];omega) (by rw [hyl.out];omega) hxy.out hyz.out (by rw [hz.out];simp) hs64 (by rw [←hxy.out];exact hv.out)
      show _=_
      rw [hyz.out]
      exact this
     case measure=>simp [intOf];omega
   ·obtain rfl:i=p:=by omega
    have hval:Hid (nv l=nv xs/2^n):=by
     show _=_
     have h:=hv.out
     rw [List.take_of_length_le (by rw [hll.out];exact b8 _),List.take_of_length_le (by rw [hyl.out];exact b8 _)] at h
     have h0:ys.getD i 0=0:=by rw [bC,kM (by rw [hyl.out];exact b8 _)];rfl
     rw [h0,Nat.zero_mod,iG,dN] at h
     have h1:=eO (ys.getD 0 0) (dW s)
     rw [hyv.out,←h,bY,nH (dW s),gT h1,dN]
    have hr2:Rd wr (some ⟨g,0,none⟩) i i l:=by
     have:=hb.rd hwl (o:=0) (n:=i) (cap:=i) (b8 _) (by rw [hll.out];omega) (by rw [eY];omega)
     rwa [gU,List.take_of_length_le (by rw [hll.out];omega)] at this
    have hpm:i≤m:=by omega
    clear hkp1 hkp2
    go_wp2_with fail
    refine (k9 hr2).mono ?_
    rintro e w' ⟨t,ht,htn,rfl,rfl⟩
    go_wp2_with fail
    go_ret2
    rw [←hval.out]
    exact E8 (tV (ys:=l) hgs hb hll.out htn (by rw [eY];omega) (nQ hwl ht.out).symm hr)
end
end Go.Proofs.YtkepckmdjncehaaGreatDoor
