/-
  Chapter 9's laws: the closed part, awake, by running; its edits of events by their contract.
  Conditions: the program's variables hold what its text lays into them.
-/
import Derived.Test.YtpapgaocjhnoiaaGreatDoorC12
import Derived.Test.YtpapgaocjhnoiaaGreatDoorPvBF
set_option linter.unusedVariables false
set_option linter.unusedSimpArgs false
namespace Go.Proofs.Pv
open Go Go.Proofs
set_option maxRecDepth 100000
set_option maxHeartbeats 8000000
def vP:Ev:=⟨1,[⟨0,0,4⟩],[false],⟨2,0,0,0⟩,[],⟨#[]⟩⟩
def Kv:Ev:=⟨0,[],[],⟨2,0,0,0⟩,[],⟨#[]⟩⟩
def bar1:Ba:=⟨⟨1,4,[]⟩,⟨0,false⟩,⟨false,0,[],false,false,false,false,0⟩,[]⟩
def jW (t:ByteArray) (e:Ev):Sc:=⟨t,[bar1],[⟨⟨#[]⟩,0,0,[[⟨[e]⟩]],[[]]⟩]⟩
def Vr (e:Ev):aK:=⟨1,0,0,0,0,1,[e],[],[],[],0,0,⟨#[]⟩⟩
theorem Ol (t:ByteArray) (e:Ev):(jW t e).typed:=by
 refine⟨fun b hb=>?_,fun p hp d hd x hx=>?_⟩
 ·simp only[jW,List.mem_singleton] at hb
  subst hb
  exact⟨by unfold I64;decide,by unfold I64;decide,fun t ht=>by simp [bar1] at ht⟩
 ·simp only[jW,List.mem_singleton] at hp
  subst hp
  simp only[List.mem_singleton] at hd
  subst hd
  cases hx
def oTit:aK:=⟨9,0,0,0,0,0,[],[],[],[],0,0,⟨#[97]⟩⟩
theorem Xk (e:Ev) (h:e.small):(Vr e).fine:=⟨(fun x hx=>by simp only[Vr,List.mem_singleton] at hx;subst hx;exact h),(show 1≤400000 by decide),(fun _ hb=>nomatch hb),(show 0≤400000 by decide),(fun _ hb=>nomatch hb),(show 0≤1000000 by decide),(fun _ hb=>nomatch hb),(show 0≤1000000 by decide),rH,rH⟩
theorem aFj (k:Int) (t:ByteArray):(⟨k,0,0,0,0,0,[],[],[],[],0,0,t⟩:aK).fine:=⟨(fun _ hb=>nomatch hb),(show 0≤400000 by decide),(fun _ hb=>nomatch hb),(show 0≤400000 by decide),(fun _ hb=>nomatch hb),(show 0≤1000000 by decide),(fun _ hb=>nomatch hb),(show 0≤1000000 by decide),rH,rH⟩
theorem Aw (t:ByteArray) (e:Ev) (o:aK) (ho:o.fine) (h1:(jW t e).fewB=true) {r:AV} (hr:rJ (gY (jW t e) o)=r):PC Tryz.prog gl 7 [(jW t e).av,o.av] (fun v=>v=r):=by
 rw[←hr]
 exact aC3 _ _ (aLq (Ol t e) h1) ho
theorem aKn (t:ByteArray) (e:Ev) (h1:(jW t e).fewB=true) (c1:(jW t e).checkR.2=0):PC Tryz.prog gl 16 [(jW t e).av] (fun v=>v=(jW t e).av):=by
 have f1:=Rf (Ol t e) h1
 exact aL2 _ (aA9 (nV c1) f1.small f1.ends)
def aFk:ByteArray:=⟨#[97]⟩
def rC:ByteArray:=⟨#[]⟩
theorem Ze:(jW rC vP).fewB=true:=by kernel_rfl
theorem fewR0:(jW rC Kv).fewB=true:=by kernel_rfl
theorem fewNA:(jW aFk vP).fewB=true:=by kernel_rfl
theorem chkN0:(jW rC vP).checkR.2=0:=by kernel_rfl
theorem aUj:vP.small:=⟨by decide,by decide,by decide⟩
theorem aNr:Kv.small:=⟨by decide,by decide,by decide⟩
def aRb:aK:=⟨9,0,0,0,0,0,[],[],[],[],0,0,rC⟩
def oZero:aK:=⟨0,0,0,0,0,0,[],[],[],[],0,0,rC⟩
theorem aNs (t:ByteArray) (e:Ev) (h1:(jW t e).fewB=true) (c1:(jW t e).checkR=((0,0,0,0),0)):PC Tryz.prog gl 8 [(jW t e).av] (fun v=>v= .tup [mO (0,0,0,0),.int .i64 0]):=by
 have:=jS (jW t e) (Rf (Ol t e) h1).small
 rwa [c1] at this
theorem ckN0:(jW rC vP).checkR=((0,0,0,0),0):=by kernel_rfl
def eAp1:FuncId×List AV×AV:=(7,[(jW rC vP).av,(Vr Kv).av],.tup [(jW rC Kv).av,(Vr vP).av,.int .i64 0])
def eAp2:FuncId×List AV×AV:=(7,[(jW rC Kv).av,(Vr vP).av],.tup [(jW rC vP).av,(Vr Kv).av,.int .i64 0])
def eAp3:FuncId×List AV×AV:=(7,[(jW aFk vP).av,(Vr Kv).av],.tup [(jW aFk Kv).av,(Vr vP).av,.int .i64 0])
def eCo1:FuncId×List AV×AV:=(16,[(jW rC vP).av],(jW rC vP).av)
def eCk1:FuncId×List AV×AV:=(8,[(jW rC vP).av],.tup [mO (0,0,0,0),.int .i64 0])
def eSa1:FuncId×List AV×AV:=(11,[(jW rC vP).av,(jW rC vP).av],.bool true)
def eSa2:FuncId×List AV×AV:=(11,[(jW rC Kv).av,(jW rC vP).av],.bool false)
def eOne:FuncId×List AV×AV:=(9,[],(jW rC vP).av)
def eTit:FuncId×List AV×AV:=(7,[(jW rC vP).av,oTit.av],.tup [(jW aFk vP).av,aRb.av,.int .i64 0])
def aD2:FuncId×List AV×AV:=(7,[(jW rC vP).av,oZero.av],errR 90)
def eRun:FuncId×List AV×AV:=(10,[(jW rC vP).av,.sl 13 [oTit.av,(Vr Kv).av] .none],.tup [(jW aFk Kv).av,.sl 13 [(Vr vP).av,aRb.av] .none,.int .i64 2,.int .i64 0])
def cf9:Fz:= {cps:=fun _=>false,fz:=fun f=>Nat.beq f 10}
theorem aUk:PC Tryz.prog gl eAp1.1 eAp1.2.1 (fun v=>v=eAp1.2.2):=Aw _ _ _ (Xk Kv aNr) Ze (by kernel_rfl)
theorem aUl:PC Tryz.prog gl eAp2.1 eAp2.2.1 (fun v=>v=eAp2.2.2):=Aw _ _ _ (Xk vP aUj) fewR0 (by kernel_rfl)
theorem aUm:PC Tryz.prog gl eAp3.1 eAp3.2.1 (fun v=>v=eAp3.2.2):=Aw _ _ _ (Xk Kv aNr) fewNA (by kernel_rfl)
theorem aUn:PC Tryz.prog gl eCo1.1 eCo1.2.1 (fun v=>v=eCo1.2.2):=aKn _ _ Ze chkN0
theorem aUo:PC Tryz.prog gl eCk1.1 eCk1.2.1 (fun v=>v=eCk1.2.2):=aNs _ _ Ze ckN0
theorem aUp:PC Tryz.prog gl eSa1.1 eSa1.2.1 (fun v=>v=eSa1.2.2):=PC.of_runB (cf:=cf9) (tab:=[]) Jy mix names (n:=1000) (by kernel_rfl)
theorem aSx:PC Tryz.prog gl eOne.1 eOne.2.1 (fun v=>v=eOne.2.2):=PC.of_runB (cf:=cf9) (tab:=[]) Jy mix names (n:=1000) (by kernel_rfl)
theorem aUq:PC Tryz.prog gl eSa2.1 eSa2.2.1 (fun v=>v=eSa2.2.2):=PC.of_runB (cf:=cf9) (tab:=[]) Jy mix names (n:=1000) (by kernel_rfl)
theorem aUr:PC Tryz.prog gl eTit.1 eTit.2.1 (fun v=>v=eTit.2.2):=Aw _ _ _ (aFj 9 _) Ze (by kernel_rfl)
theorem aSy:PC Tryz.prog gl aD2.1 aD2.2.1 (fun v=>v=aD2.2.2):=Aw _ _ _ (aFj 0 _) Ze (by kernel_rfl)
theorem aSz:PC Tryz.prog gl eRun.1 eRun.2.1 (fun v=>v=eRun.2.2):=PC.of_runB (cf:=cf9) (tab:=[eCo1,eCk1,eTit,eAp3]) (pM aUn (pM aUo (pM aUr (pM aUm Jy)))) mix names (n:=1000) (by kernel_rfl)
theorem aNt:PC Tryz.prog gl 4 [] (fun v=>v= .bool true):=PC.of_runB (cf:=cf9) (tab:=[eOne,eAp1,eAp2,aD2,eRun,eSa1,eSa2]) (pM aSx (pM aUk (pM aUl (pM aSy (pM aSz (pM aUp (pM aUq Jy))))))) mix names (n:=1000) (by kernel_rfl)
end Go.Proofs.Pv
