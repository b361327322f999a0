/-
slices.Insert, Delete and Clone at lists of bars, of cells, of dynamics, among a score's blocks.
Conditions: none but those that each statement names.
-/
import Derived.Test.YtbeclcideapopaaGreatDoorC10a
import Derived.Test.YtbeclcideapopaaGreatDoorC09l
set_option linter.unusedVariables false
set_option linter.unusedSimpArgs false
set_option maxRecDepth 100000
set_option maxHeartbeats 16000000
namespace Go.Proofs.Pv
open Go Go.Proofs
def insL {α:Type} (l es:List α) (a:Nat):List α:=l.take a++es++l.drop a
def jV {α:Type} (l:List α) (a d:Nat):List α:=l.take a++l.drop (a+d)
theorem xQ {α:Type} {l es:List α} {a:Nat} (h:a<=l.length):(insL l es a).length=l.length+es.length:=by simp only[insL,List.length_append,List.length_take,List.length_drop];omega
theorem xR {α:Type} {l:List α} {a d:Nat} (h:a+d<=l.length):(jV l a d).length=l.length - d:=by simp only[jV,List.length_append,List.length_take,List.length_drop];omega
theorem Rd.call {P:Program} {G:Nat->Option (List AV)} {F:Fence} (hF:Free F) {W:World} {f:FuncId} {args:List AV} {hr:Hp} {v:AV} (rd:Rd P G f args hr v) {st:St} {K:AV->St->Prop} (hs: ∀k b,hr k=some b->st.hp k=some b) (hK:K v st):aP F P G W f args K st:=by
 intro M w vs inv hargs
 obtain⟨h1,h2⟩:=rd F hF W _ _ M w vs st.nx (fun k hk=>hk) hs inv hargs
 refine⟨h1,fun n=>(h2 n).mono ?_⟩
 rintro e w' ⟨M',u,rfl,h3,h4,h5⟩
 exact⟨M',u,v,st,rfl,h3,h4,h5,hK⟩
section
variable {F:Fence} {W:World} {f:FuncId} {n n' k m q r nx n0 a:Nat} {C0 C1 C2:List AV} {rest:List AV}
theorem Du (hF:Free F) (hro:F.round=none) (wd:dE Tryz.prog gl f [.msl 0 0 n k,.int .i64 (a:Nat),.msl 1 0 m k] [(0,.cells C0),(1,.cells C1)] 2 (.msl 0 0 n' k) [(0,C2)] 1) (hqr:q≠r) (r0: ∀f,C0.map (AV.ren f)=C0) (r1: ∀f,C1.map (AV.ren f)=C1) (r2: ∀f,C2.map (AV.ren f)=C2):
  aP F Tryz.prog gl W f [.msl q 0 n k,.int .i64 (a:Nat),.msl r 0 m k] (fun u su=>u= .msl nx 0 n' k/\su=⟨[(nx,.cells C2)],nx+1⟩) ⟨[(q,.cells C0),(r,.cells C1)],nx⟩:=by
 refine wd.call hF hro (fun k=>if k=q then some 0 else if k=r then some 1 else none) (fun k=>if k=0 then some q else if k=1 then some r else none) ?_ (fun k hk=>by show(if k=0 then some q else if k=1 then some r else none)=none;rw[if_neg (by omega),if_neg (by omega)]) (st:=⟨[(q,.cells C0),(r,.cells C1)],nx⟩)
  (aG.cons q (by simp [hget]) (by simp) (r0 _) (aG.cons r (by simp [hget,Ne.symm hqr]) (by simp [Ne.symm hqr]) (r1 _) aG.nil)) (by simp [AV.ren,Ne.symm hqr]) ⟨?_,?_⟩
 ·intro k k' h
  split at h
  ·rename_i e;subst e;cases h;rfl
  ·split at h
   ·rename_i e;subst e;cases h;rfl
   ·cases h
 ·simp [AV.ren,up]
 ·simp only[eX,fG,aK,aN,r2,Nat.zero_add]
theorem tV (hF:Free F) (hro:F.round=none) (wd:dE Tryz.prog gl f (.msl 0 0 n k::rest) [(0,.cells C0)] n0 (.msl 0 0 n' k) [(0,C2)] 1) (h0:0<n0) (hr: ∀f,rest.map (AV.ren f)=rest) (r0: ∀f,C0.map (AV.ren f)=C0) (r2: ∀f,C2.map (AV.ren f)=C2):
  aP F Tryz.prog gl W f (.msl q 0 n k::rest) (fun u su=>u= .msl nx 0 n' k/\su=⟨[(nx,.cells C2)],nx+1⟩) ⟨[(q,.cells C0)],nx⟩:=by
 refine wd.call hF hro (fun k=>if k=q then some 0 else none) (fun k=>if k=0 then some q else none) ?_ (fun k hk=>by show(if k=0 then some q else none)=none;rw[if_neg (by omega)]) (st:=⟨[(q,.cells C0)],nx⟩)
  (aG.cons q (by simp [hget]) (by simp) (r0 _) aG.nil) (by rw[List.map_cons,hr];simp [AV.ren]) ⟨?_,?_⟩
 ·intro k k' h
  split at h
  ·rename_i e;subst e;cases h;rfl
  ·cases h
 ·simp [AV.ren,up]
 ·simp only[eX,fG,aK,aN,r2,Nat.zero_add]
end
theorem Qn: ∀l:List (Ba),(l.flatMap Ba.cells).length=l.length*14:=flat_length (k:=14) fun _=>rfl
theorem We (l:List (Ba)):(l.flatMap Ba.cells).all AV.one=true:=zW (fun _=>rfl) l
theorem aLe (l es:List (Ba)) (a:Nat) (ha:a<=l.length) (hs:l.length+es.length<=1000000):dE Tryz.prog gl 55 [.msl 0 0 l.length 14,.int .i64 (a:Nat),iL 1 14 es.length] (hC ((0,l.flatMap Ba.cells)::jC 1 (es.flatMap Ba.cells) es.length)) 2 (.msl 0 0 (insL l es a).length 14) [(0,(insL l es a).flatMap Ba.cells)] 1:=by
 have:=aDi ((l.take a).flatMap Ba.cells) ((l.drop a).flatMap Ba.cells) (es.flatMap Ba.cells) a (l.length - a) es.length (by rw[Qn,List.length_take];congr 1<;>omega) (by rw[Qn,List.length_drop]) (by rw[Qn]) (We _) (We _) (We _) (fun f=>nK _) (fun f=>nK _) (fun f=>nK _) (by omega)
 have e1:a+(l.length - a)=l.length:=by omega
 have e2:(insL l es a).length=a+es.length+(l.length - a):=by rw[xQ ha];omega
 have e3:(l.take a).flatMap Ba.cells++(l.drop a).flatMap Ba.cells=l.flatMap Ba.cells:=by rw[<-List.flatMap_append,List.take_append_drop]
 have e4:(l.take a).flatMap Ba.cells++es.flatMap Ba.cells++(l.drop a).flatMap Ba.cells=(insL l es a).flatMap Ba.cells:=by simp only[insL,List.flatMap_append]
 rw[e1,e3,e4,<-e2] at this
 exact this
theorem aRs {F:Fence} (hF:Free F) (hro:F.round=none) {W:World} (l es:List (Ba)) (a:Nat) (ha:a<=l.length) (hs:l.length+es.length<=1000000) (m:Nat) (hm:es.length=m+1) {q r nx:Nat} (hqr:q≠r):
  aP F Tryz.prog gl W 55 [.msl q 0 l.length 14,.int .i64 (a:Nat),.msl r 0 (m+1) 14] (fun u su=>u= .msl nx 0 (insL l es a).length 14/\su=⟨[(nx,.cells ((insL l es a).flatMap Ba.cells))],nx+1⟩) ⟨[(q,.cells (l.flatMap Ba.cells)),(r,.cells (es.flatMap Ba.cells))],nx⟩:=by
 have:=aLe l es a ha hs
 rw[hm] at this
 simp only[dY,bJ,aK,aN] at this
 exact Du hF hro this hqr (fun f=>nK _) (fun f=>nK _) (fun f=>nK _)
theorem aRt {F:Fence} (hF:Free F) (hro:F.round=none) {W:World} (l es:List (Ba)) (a:Nat) (ha:a<=l.length) (hs:l.length+es.length<=1000000) (hm:es.length=0) {q nx:Nat}:
  aP F Tryz.prog gl W 55 [.msl q 0 l.length 14,.int .i64 (a:Nat),.sl 14 [] .mut] (fun u su=>u= .msl nx 0 (insL l es a).length 14/\su=⟨[(nx,.cells ((insL l es a).flatMap Ba.cells))],nx+1⟩) ⟨[(q,.cells (l.flatMap Ba.cells))],nx⟩:=by
 have:=aLe l es a ha hs
 rw[hm] at this
 simp only[aX,aY,aK,aN] at this
 exact tV hF hro this (by decide) (fun f=>rfl) (fun f=>nK _) (fun f=>nK _)
theorem aRu {F:Fence} (hF:Free F) (hro:F.round=none) {W:World} (l:List (Ba)) (a d:Nat) (ha:a+d<=l.length) (hs:l.length<=1000000) {q nx:Nat}:
  aP F Tryz.prog gl W 59 [.msl q 0 l.length 14,.int .i64 (a:Nat),.int .i64 ((a+d:Nat):Int)] (fun u su=>u= .msl nx 0 (jV l a d).length 14/\su=⟨[(nx,.cells ((jV l a d).flatMap Ba.cells))],nx+1⟩) ⟨[(q,.cells (l.flatMap Ba.cells))],nx⟩:=by
 have:=aDe ((l.take a).flatMap Ba.cells) (((l.drop a).take d).flatMap Ba.cells) ((l.drop (a+d)).flatMap Ba.cells) a d (l.length - (a+d)) (by rw[Qn,List.length_take];congr 1<;>omega) (by rw[Qn,List.length_take,List.length_drop];congr 1<;>omega) (by rw[Qn,List.length_drop]) (We _) (We _) (We _) (fun f=>nK _) (fun f=>nK _) (by omega)
 have e1:a+d+(l.length - (a+d))=l.length:=by omega
 have e2:(jV l a d).length=a+(l.length - (a+d)):=by rw[xR ha];omega
 have e3:(l.take a).flatMap Ba.cells++((l.drop a).take d).flatMap Ba.cells++(l.drop (a+d)).flatMap Ba.cells=l.flatMap Ba.cells:=by
  rw[<-List.flatMap_append,<-List.flatMap_append,<-List.drop_drop,List.append_assoc,List.take_append_drop,List.take_append_drop]
 have e4:(l.take a).flatMap Ba.cells++(l.drop (a+d)).flatMap Ba.cells=(jV l a d).flatMap Ba.cells:=by simp only[jV,List.flatMap_append]
 rw[e1,e3,e4,<-e2] at this
 exact tV hF hro this (by decide) (fun f=>rfl) (fun f=>nK _) (fun f=>nK _)
theorem Qo: ∀l:List (List Vo),(l.flatMap fE).length=l.length:=fun l=>by rw[flat_length (k:=1) fun _=>rfl,Nat.mul_one]
theorem Wh (l:List (List Vo)):(l.flatMap fE).all AV.one=true:=zW (fun _=>rfl) l
theorem aLf (l es:List (List Vo)) (a:Nat) (ha:a<=l.length) (hs:l.length+es.length<=1000000):dE Tryz.prog gl 56 [.msl 0 0 l.length 1,.int .i64 (a:Nat),iL 1 1 es.length] (hC ((0,l.flatMap fE)::jC 1 (es.flatMap fE) es.length)) 2 (.msl 0 0 (insL l es a).length 1) [(0,(insL l es a).flatMap fE)] 1:=by
 have:=Gy (.inl ⟨rfl,rfl⟩) ((l.take a).flatMap fE) ((l.drop a).flatMap fE) (es.flatMap fE) a (l.length - a) es.length (by rw[Qo,List.length_take];congr 1<;>omega) (by rw[Qo,List.length_drop]) (by rw[Qo]) (Wh _) (Wh _) (Wh _) (fun f=>uF _) (fun f=>uF _) (fun f=>uF _) (by omega)
 have e1:a+(l.length - a)=l.length:=by omega
 have e2:(insL l es a).length=a+es.length+(l.length - a):=by rw[xQ ha];omega
 have e3:(l.take a).flatMap fE++(l.drop a).flatMap fE=l.flatMap fE:=by rw[<-List.flatMap_append,List.take_append_drop]
 have e4:(l.take a).flatMap fE++es.flatMap fE++(l.drop a).flatMap fE=(insL l es a).flatMap fE:=by simp only[insL,List.flatMap_append]
 rw[e1,e3,e4,<-e2] at this
 exact this
theorem aRv {F:Fence} (hF:Free F) (hro:F.round=none) {W:World} (l es:List (List Vo)) (a:Nat) (ha:a<=l.length) (hs:l.length+es.length<=1000000) (m:Nat) (hm:es.length=m+1) {q r nx:Nat} (hqr:q≠r):
  aP F Tryz.prog gl W 56 [.msl q 0 l.length 1,.int .i64 (a:Nat),.msl r 0 (m+1) 1] (fun u su=>u= .msl nx 0 (insL l es a).length 1/\su=⟨[(nx,.cells ((insL l es a).flatMap fE))],nx+1⟩) ⟨[(q,.cells (l.flatMap fE)),(r,.cells (es.flatMap fE))],nx⟩:=by
 have:=aLf l es a ha hs
 rw[hm] at this
 simp only[dY,bJ,aK,aN] at this
 exact Du hF hro this hqr (fun f=>uF _) (fun f=>uF _) (fun f=>uF _)
theorem aRw {F:Fence} (hF:Free F) (hro:F.round=none) {W:World} (l es:List (List Vo)) (a:Nat) (ha:a<=l.length) (hs:l.length+es.length<=1000000) (hm:es.length=0) {q nx:Nat}:
  aP F Tryz.prog gl W 56 [.msl q 0 l.length 1,.int .i64 (a:Nat),.sl 1 [] .mut] (fun u su=>u= .msl nx 0 (insL l es a).length 1/\su=⟨[(nx,.cells ((insL l es a).flatMap fE))],nx+1⟩) ⟨[(q,.cells (l.flatMap fE))],nx⟩:=by
 have:=aLf l es a ha hs
 rw[hm] at this
 simp only[aX,aY,aK,aN] at this
 exact tV hF hro this (by decide) (fun f=>rfl) (fun f=>uF _) (fun f=>uF _)
theorem aRx {F:Fence} (hF:Free F) (hro:F.round=none) {W:World} (l:List (List Vo)) (a d:Nat) (ha:a+d<=l.length) (hs:l.length<=1000000) {q nx:Nat}:
  aP F Tryz.prog gl W 62 [.msl q 0 l.length 1,.int .i64 (a:Nat),.int .i64 ((a+d:Nat):Int)] (fun u su=>u= .msl nx 0 (jV l a d).length 1/\su=⟨[(nx,.cells ((jV l a d).flatMap fE))],nx+1⟩) ⟨[(q,.cells (l.flatMap fE))],nx⟩:=by
 have:=Gs (.inl ⟨rfl,rfl⟩) ((l.take a).flatMap fE) (((l.drop a).take d).flatMap fE) ((l.drop (a+d)).flatMap fE) a d (l.length - (a+d)) (by rw[Qo,List.length_take];congr 1<;>omega) (by rw[Qo,List.length_take,List.length_drop];congr 1<;>omega) (by rw[Qo,List.length_drop]) (Wh _) (Wh _) (Wh _) (fun f=>uF _) (fun f=>uF _) (by omega)
 have e1:a+d+(l.length - (a+d))=l.length:=by omega
 have e2:(jV l a d).length=a+(l.length - (a+d)):=by rw[xR ha];omega
 have e3:(l.take a).flatMap fE++((l.drop a).take d).flatMap fE++(l.drop (a+d)).flatMap fE=l.flatMap fE:=by
  rw[<-List.flatMap_append,<-List.flatMap_append,<-List.drop_drop,List.append_assoc,List.take_append_drop,List.take_append_drop]
 have e4:(l.take a).flatMap fE++(l.drop (a+d)).flatMap fE=(jV l a d).flatMap fE:=by simp only[jV,List.flatMap_append]
 rw[e1,e3,e4,<-e2] at this
 exact tV hF hro this (by decide) (fun f=>rfl) (fun f=>uF _) (fun f=>uF _)
theorem Qp: ∀l:List (List Dy),(l.flatMap fO).length=l.length:=fun l=>by rw[flat_length (k:=1) fun _=>rfl,Nat.mul_one]
theorem Wi (l:List (List Dy)):(l.flatMap fO).all AV.one=true:=zW (fun _=>rfl) l
theorem aLg (l es:List (List Dy)) (a:Nat) (ha:a<=l.length) (hs:l.length+es.length<=1000000):dE Tryz.prog gl 57 [.msl 0 0 l.length 1,.int .i64 (a:Nat),iL 1 1 es.length] (hC ((0,l.flatMap fO)::jC 1 (es.flatMap fO) es.length)) 2 (.msl 0 0 (insL l es a).length 1) [(0,(insL l es a).flatMap fO)] 1:=by
 have:=Gy (.inr (.inl ⟨rfl,rfl⟩)) ((l.take a).flatMap fO) ((l.drop a).flatMap fO) (es.flatMap fO) a (l.length - a) es.length (by rw[Qp,List.length_take];congr 1<;>omega) (by rw[Qp,List.length_drop]) (by rw[Qp]) (Wi _) (Wi _) (Wi _) (fun f=>nJ _) (fun f=>nJ _) (fun f=>nJ _) (by omega)
 have e1:a+(l.length - a)=l.length:=by omega
 have e2:(insL l es a).length=a+es.length+(l.length - a):=by rw[xQ ha];omega
 have e3:(l.take a).flatMap fO++(l.drop a).flatMap fO=l.flatMap fO:=by rw[<-List.flatMap_append,List.take_append_drop]
 have e4:(l.take a).flatMap fO++es.flatMap fO++(l.drop a).flatMap fO=(insL l es a).flatMap fO:=by simp only[insL,List.flatMap_append]
 rw[e1,e3,e4,<-e2] at this
 exact this
theorem aRy {F:Fence} (hF:Free F) (hro:F.round=none) {W:World} (l es:List (List Dy)) (a:Nat) (ha:a<=l.length) (hs:l.length+es.length<=1000000) (m:Nat) (hm:es.length=m+1) {q r nx:Nat} (hqr:q≠r):
  aP F Tryz.prog gl W 57 [.msl q 0 l.length 1,.int .i64 (a:Nat),.msl r 0 (m+1) 1] (fun u su=>u= .msl nx 0 (insL l es a).length 1/\su=⟨[(nx,.cells ((insL l es a).flatMap fO))],nx+1⟩) ⟨[(q,.cells (l.flatMap fO)),(r,.cells (es.flatMap fO))],nx⟩:=by
 have:=aLg l es a ha hs
 rw[hm] at this
 simp only[dY,bJ,aK,aN] at this
 exact Du hF hro this hqr (fun f=>nJ _) (fun f=>nJ _) (fun f=>nJ _)
theorem aRz {F:Fence} (hF:Free F) (hro:F.round=none) {W:World} (l es:List (List Dy)) (a:Nat) (ha:a<=l.length) (hs:l.length+es.length<=1000000) (hm:es.length=0) {q nx:Nat}:
  aP F Tryz.prog gl W 57 [.msl q 0 l.length 1,.int .i64 (a:Nat),.sl 1 [] .mut] (fun u su=>u= .msl nx 0 (insL l es a).length 1/\su=⟨[(nx,.cells ((insL l es a).flatMap fO))],nx+1⟩) ⟨[(q,.cells (l.flatMap fO))],nx⟩:=by
 have:=aLg l es a ha hs
 rw[hm] at this
 simp only[aX,aY,aK,aN] at this
 exact tV hF hro this (by decide) (fun f=>rfl) (fun f=>nJ _) (fun f=>nJ _)
theorem aR0 {F:Fence} (hF:Free F) (hro:F.round=none) {W:World} (l:List (List Dy)) (a d:Nat) (ha:a+d<=l.length) (hs:l.length<=1000000) {q nx:Nat}:
  aP F Tryz.prog gl W 63 [.msl q 0 l.length 1,.int .i64 (a:Nat),.int .i64 ((a+d:Nat):Int)] (fun u su=>u= .msl nx 0 (jV l a d).length 1/\su=⟨[(nx,.cells ((jV l a d).flatMap fO))],nx+1⟩) ⟨[(q,.cells (l.flatMap fO))],nx⟩:=by
 have:=Gs (.inr (.inl ⟨rfl,rfl⟩)) ((l.take a).flatMap fO) (((l.drop a).take d).flatMap fO) ((l.drop (a+d)).flatMap fO) a d (l.length - (a+d)) (by rw[Qp,List.length_take];congr 1<;>omega) (by rw[Qp,List.length_take,List.length_drop];congr 1<;>omega) (by rw[Qp,List.length_drop]) (Wi _) (Wi _) (Wi _) (fun f=>nJ _) (fun f=>nJ _) (by omega)
 have e1:a+d+(l.length - (a+d))=l.length:=by omega
 have e2:(jV l a d).length=a+(l.length - (a+d)):=by rw[xR ha];omega
 have e3:(l.take a).flatMap fO++((l.drop a).take d).flatMap fO++(l.drop (a+d)).flatMap fO=l.flatMap fO:=by
  rw[<-List.flatMap_append,<-List.flatMap_append,<-List.drop_drop,List.append_assoc,List.take_append_drop,List.take_append_drop]
 have e4:(l.take a).flatMap fO++(l.drop (a+d)).flatMap fO=(jV l a d).flatMap fO:=by simp only[jV,List.flatMap_append]
 rw[e1,e3,e4,<-e2] at this
 exact tV hF hro this (by decide) (fun f=>rfl) (fun f=>nJ _) (fun f=>nJ _)
end Go.Proofs.Pv
namespace Go.Proofs.Pv
open Go Go.Proofs
theorem rdSub {h:List (Nat×aH)} {nx q:Nat} {X:aH} (e:hget h q=some X): ∀k b,hget [(q,X)] k=some b->(⟨h,nx⟩:St).hp k=some b:=by
 intro k b h1
 simp only[hget] at h1
 split at h1
 ·rename_i e1
  subst e1
  exact e.trans h1
 ·cases h1
def Pa.ins (p:Pa) (c:List (List Vo)) (d:List (List Dy)) (b:Nat):Pa:=⟨p.name,p.clef,p.channel,insL p.cells c b,insL p.dyns d b⟩
def Pa.del (p:Pa) (b c:Nat):Pa:=⟨p.name,p.clef,p.channel,jV p.cells b c,jV p.dyns b c⟩
theorem Zw {P:Program} {G:Nat->Option (List AV)} {F:Fence} {W:World} {rng:Bool} {d:Nat} {c:Code} {K:dU Prop} {fr:Fr} {st:St} (g:(OZ F P G W rng (d+1)).loop c K fr st):(OZ F P G W rng (d+1)).loop c K fr st:=g
structure Box (p:Prop):Prop where
 out:p
def hk0 (q:Nat):List (Nat×aH)->List (Nat×aH)
 |[]=>[]
 |(k,b)::h=>if k=q then hk0 q h else(k,b)::hk0 q h
theorem aIo {q:Nat}:hk0 q []=[]:=rfl
theorem aFp {q k:Nat} {b:aH} {h:List (Nat×aH)}:hk0 q ((k,b)::h)=if k=q then hk0 q h else(k,b)::hk0 q h:=rfl
theorem aBf {q k:Nat} {b:aH}: ∀ {h:List (Nat×aH)},hget (hk0 q h) k=some b->hget h k=some b/\k≠q
 |[],h1=>by simp [hk0,hget] at h1
 | (k',b')::h,h1=>by
  simp only[hk0] at h1
  by_cases e:k'=q
  ·rw[if_pos e] at h1
   obtain⟨g1,g2⟩:=aBf h1
   refine⟨?_,g2⟩
   simp only[hget]
   rw[if_neg (fun e2=>g2 (e2.trans e))];exact g1
  ·rw[if_neg e] at h1
   simp only[hget] at h1 ⊢
   split at h1
   ·rename_i e2
    rw[if_pos e2]
    exact⟨h1,fun e3=>e (e2.symm.trans e3)⟩
   ·rename_i e2
    rw[if_neg e2]
    exact aBf h1
theorem Tt {P:Program} {G:Nat->Option (List AV)} {F:Fence} {W:World} {rng:Bool} {d:Nat} {f:FuncId} {args:List AV} {v:AV} {q nx:Nat} {X Y:aH} {h:List (Nat×aH)} {K:AV->St->Prop} (e:hget h q=some X)
  (hc:aP F P G W f args (fun u su=>u=v/\su=⟨[(nx,Y)],nx+1⟩) ⟨[(q,X)],nx⟩) (hK:K v ⟨hk0 q h++[(nx,Y)],nx+1⟩):(OZ F P G W rng d).call f args K ⟨h,nx⟩:=by
 refine mV ?_
 intro M w vs inv hargs
 obtain⟨F1,inv1,hback⟩:=inv.hide (fun k=>decide (k=q)) (hp1:=hget [(q,X)]) (al1:=(· <nx)) (fun k b hk=>⟨rdSub (nx:=nx) e k b hk,by
  simp only[hget] at hk
  split at hk
  ·rename_i e1;simpa using e1
  ·cases hk⟩) (fun k hk=>hk)
 obtain⟨g,hcall⟩:=hc {M with F:=F1} w vs inv1 hargs
 refine⟨g,fun n=>(hcall n).mono ?_⟩
 rintro e w' ⟨M',v',av,st2,rfl,r1,r2,r3,rfl,rfl⟩
 obtain⟨hle2,hinv2⟩:=hback M' w' _ _ r1 r2
 refine⟨{M' with F:=M.F},v',_,⟨hk0 q h++[(nx,Y)],nx+1⟩,rfl,hle2,hinv2 _ fun k b hk=>?_,r3,hK⟩
 simp only[St.hp,bV] at hk
 split at hk
 ·rename_i x hx
  simp only[Option.some.injEq] at hk
  subst hk
  obtain⟨g1,g2⟩:=aBf hx
  exact .inl ⟨g1,by simpa using g2⟩
 ·exact .inr hk
theorem aQ0 (l:List (Ba)) (a n:Nat) (hl:l.length<=1000000) (ha:a+n<=l.length) (hn:0<n) (q:Nat) (hq:q<2000):Rd Tryz.prog gl 58 [.msl q (a*14) n 14] (hget [(q,.cells (l.flatMap Ba.cells))]) (.sl 14 (((l.drop a).take n).map Ba.av) .none):=by
 have hfl:=Qn l
 have hcut:List.take (n*14) (List.drop (a*14) (l.flatMap Ba.cells))=((l.drop a).take n).flatMap Ba.cells:=by rw[Bi (c:=Ba.cells) (k:=14) (fun _=>rfl),Bh (c:=Ba.cells) (k:=14) (fun _=>rfl)]
 have hone:(((l.drop a).take n).flatMap Ba.cells).all AV.one=true:=We _
 have hpure:(((l.drop a).take n).flatMap Ba.cells).all AV.pure=true:=kS (fun _=>rfl) _
 have hlen:((l.drop a).take n).length=n:=by rw[List.length_take,List.length_drop];omega
 have hfl2:(((l.drop a).take n).flatMap Ba.cells).length=n*14:=by rw[Qn,hlen]
 have hch:chunks (!(Nat.beq 14 1)) 14 n (((l.drop a).take n).flatMap Ba.cells)=((l.drop a).take n).map Ba.av:=by
  have:=kZ (c:=Ba.cells) (k:=14) (fun _=>rfl) ((l.drop a).take n)
  rw[hlen] at this;exact this
 have hne: ∀m r:Nat,(q=m+2000+r)=False:=fun m r=>by simp only[eq_iff_iff,iff_false];omega
 have hne0: ∀m:Nat,(q=m+2000)=False:=fun m=>by simp only[eq_iff_iff,iff_false];omega
 refine Rd.introF 2 2000 mix names (fn:=Tryz.f58) Tryz.func58 rfl (fun f hf=>rfl) fun m F hF hro W=>?_
 simp only[Tryz.ntmps58,Tryz.results58,aI,Nat.reduceAdd,Nat.reduceSub]
 repeat' (first
  |simp -implicitDefEqProofs (maxSteps:=9999999) only[↓reduceIte,aA,aC,facts,Nat.reduceAdd,Nat.reduceLT,Nat.reduceMul,kL,kM,Zt,lQ,Option.map_none,fZ,cO,List.flatMap_nil,or_true,Nat.add_assoc, *]
  |simp -implicitDefEqProofs (maxSteps:=9999999) (disch:=first|assumption|omega) only[aA,aC,if_pos,if_neg,Nat.reduceAdd,Nat.reduceLT,lD,Gh,Qh,Nat.add_assoc, *])
 exact fun k b h=>h
theorem aGb (hl:List (Nat×aH)):Rd Tryz.prog gl 58 [.sl 14 [] .none] (hget hl) (.sl 14 [] .none):=by
 refine Rd.introF 2 200 mix names (fn:=Tryz.f58) Tryz.func58 rfl (fun f hf=>rfl) fun m F hF hro W=>?_
 simp only[Tryz.ntmps58,Tryz.results58,aI,Nat.reduceAdd,Nat.reduceSub]
 repeat' (first
  |simp -implicitDefEqProofs (maxSteps:=9999999) only[↓reduceIte,aA,aC,facts,kL,kM,zH,uJ,nR,lQ,Option.map_none, *]
  |with_reducible refine kN ?_)
 refine wX ?_ ?_
 all_goals repeat' (simp -implicitDefEqProofs (maxSteps:=9999999) only[↓reduceIte,aA,aC,facts,Nat.reduceAdd,Nat.reduceMul,lD,Gh,Qh, *])
 all_goals exact fun k b h=>h
theorem aK6 (l:List (Ba)) (a n:Nat) (hl:l.length<=1000000) (ha:a+n<=l.length) (q:Nat) (hq:q<2000):Rd Tryz.prog gl 58 [.msl q (a*14) n 14] (hget [(q,.cells (l.flatMap Ba.cells))]) (.sl 14 (((l.drop a).take n).map Ba.av) .none):=by
 rcases Nat.eq_zero_or_pos n with hn|hn
 ·subst hn
  exact(aGb _).nilMsl
 ·exact aQ0 l a n hl ha hn q hq
theorem aQ1 (l:List (List Vo)) (a n:Nat) (hl:l.length<=1000000) (ha:a+n<=l.length) (hn:0<n) (q:Nat) (hq:q<2000):Rd Tryz.prog gl 60 [.msl q (a) n 1] (hget [(q,.cells (l.flatMap fE))]) (.sl 1 (((l.drop a).take n).map bU) .none):=by
 have hfl:=Qo l
 have hcut:List.take (n) (List.drop (a) (l.flatMap fE))=((l.drop a).take n).flatMap fE:=by have:=Bi (c:=fE) (k:=1) (fun _=>rfl) l a;have h2:=Bh (c:=fE) (k:=1) (fun _=>rfl) (l.drop a) n;rw[Nat.mul_one] at this h2;rw[this,h2]
 have hone:(((l.drop a).take n).flatMap fE).all AV.one=true:=Wh _
 have hpure:(((l.drop a).take n).flatMap fE).all AV.pure=true:=kS (fun _=>rfl) _
 have hlen:((l.drop a).take n).length=n:=by rw[List.length_take,List.length_drop];omega
 have hfl2:(((l.drop a).take n).flatMap fE).length=n:=by rw[Qo,hlen]
 have hch:chunks (!(Nat.beq 1 1)) 1 n (((l.drop a).take n).flatMap fE)=((l.drop a).take n).map bU:=by
  have:=yM (c:=bU) ((l.drop a).take n)
  rw[hlen] at this
  rw[show((l.drop a).take n).flatMap fE=((l.drop a).take n).map bU from nO _]
  exact this
 have hne: ∀m r:Nat,(q=m+2000+r)=False:=fun m r=>by simp only[eq_iff_iff,iff_false];omega
 have hne0: ∀m:Nat,(q=m+2000)=False:=fun m=>by simp only[eq_iff_iff,iff_false];omega
 refine Rd.introF 2 2000 mix names (fn:=Tryz.f60) Tryz.func60 rfl (fun f hf=>rfl) fun m F hF hro W=>?_
 simp only[Tryz.ntmps60,Tryz.results60,aI,Nat.reduceAdd,Nat.reduceSub]
 repeat' (first
  |simp -implicitDefEqProofs (maxSteps:=9999999) only[↓reduceIte,aA,aC,facts,Nat.reduceAdd,Nat.reduceLT,kL,kM,Zt,lQ,Option.map_none,fZ,cO,List.flatMap_nil,or_true,Nat.add_assoc, *]
  |simp -implicitDefEqProofs (maxSteps:=9999999) (disch:=first|assumption|omega) only[aA,aC,if_pos,if_neg,Nat.reduceAdd,Nat.reduceLT,lD,Gh,Qh,Nat.add_assoc, *])
 exact fun k b h=>h
theorem aGc (hl:List (Nat×aH)):Rd Tryz.prog gl 60 [.sl 1 [] .none] (hget hl) (.sl 1 [] .none):=by
 refine Rd.introF 2 200 mix names (fn:=Tryz.f60) Tryz.func60 rfl (fun f hf=>rfl) fun m F hF hro W=>?_
 simp only[Tryz.ntmps60,Tryz.results60,aI,Nat.reduceAdd,Nat.reduceSub]
 repeat' (first
  |simp -implicitDefEqProofs (maxSteps:=9999999) only[↓reduceIte,aA,aC,facts,kL,kM,zH,uJ,nR,lQ,Option.map_none, *]
  |with_reducible refine kN ?_)
 refine wX ?_ ?_
 all_goals repeat' (simp -implicitDefEqProofs (maxSteps:=9999999) only[↓reduceIte,aA,aC,facts,Nat.reduceAdd,lD,Gh,Qh, *])
 all_goals exact fun k b h=>h
theorem aK7 (l:List (List Vo)) (a n:Nat) (hl:l.length<=1000000) (ha:a+n<=l.length) (q:Nat) (hq:q<2000):Rd Tryz.prog gl 60 [.msl q (a) n 1] (hget [(q,.cells (l.flatMap fE))]) (.sl 1 (((l.drop a).take n).map bU) .none):=by
 rcases Nat.eq_zero_or_pos n with hn|hn
 ·subst hn
  exact(aGc _).nilMsl
 ·exact aQ1 l a n hl ha hn q hq
theorem aQ2 (l:List (List Dy)) (a n:Nat) (hl:l.length<=1000000) (ha:a+n<=l.length) (hn:0<n) (q:Nat) (hq:q<2000):Rd Tryz.prog gl 61 [.msl q (a) n 1] (hget [(q,.cells (l.flatMap fO))]) (.sl 1 (((l.drop a).take n).map eP) .none):=by
 have hfl:=Qp l
 have hcut:List.take (n) (List.drop (a) (l.flatMap fO))=((l.drop a).take n).flatMap fO:=by have:=Bi (c:=fO) (k:=1) (fun _=>rfl) l a;have h2:=Bh (c:=fO) (k:=1) (fun _=>rfl) (l.drop a) n;rw[Nat.mul_one] at this h2;rw[this,h2]
 have hone:(((l.drop a).take n).flatMap fO).all AV.one=true:=Wi _
 have hpure:(((l.drop a).take n).flatMap fO).all AV.pure=true:=kS (fun _=>rfl) _
 have hlen:((l.drop a).take n).length=n:=by rw[List.length_take,List.length_drop];omega
 have hfl2:(((l.drop a).take n).flatMap fO).length=n:=by rw[Qp,hlen]
 have hch:chunks (!(Nat.beq 1 1)) 1 n (((l.drop a).take n).flatMap fO)=((l.drop a).take n).map eP:=by
  have:=yM (c:=eP) ((l.drop a).take n)
  rw[hlen] at this
  rw[show((l.drop a).take n).flatMap fO=((l.drop a).take n).map eP from nO _]
  exact this
 have hne: ∀m r:Nat,(q=m+2000+r)=False:=fun m r=>by simp only[eq_iff_iff,iff_false];omega
 have hne0: ∀m:Nat,(q=m+2000)=False:=fun m=>by simp only[eq_iff_iff,iff_false];omega
 refine Rd.introF 2 2000 mix names (fn:=Tryz.f61) Tryz.func61 rfl (fun f hf=>rfl) fun m F hF hro W=>?_
 simp only[Tryz.ntmps61,Tryz.results61,aI,Nat.reduceAdd,Nat.reduceSub]
 repeat' (first
  |simp -implicitDefEqProofs (maxSteps:=9999999) only[↓reduceIte,aA,aC,facts,Nat.reduceAdd,Nat.reduceLT,kL,kM,Zt,lQ,Option.map_none,fZ,cO,List.flatMap_nil,or_true,Nat.add_assoc, *]
  |simp -implicitDefEqProofs (maxSteps:=9999999) (disch:=first|assumption|omega) only[aA,aC,if_pos,if_neg,Nat.reduceAdd,Nat.reduceLT,lD,Gh,Qh,Nat.add_assoc, *])
 exact fun k b h=>h
theorem aGd (hl:List (Nat×aH)):Rd Tryz.prog gl 61 [.sl 1 [] .none] (hget hl) (.sl 1 [] .none):=by
 refine Rd.introF 2 200 mix names (fn:=Tryz.f61) Tryz.func61 rfl (fun f hf=>rfl) fun m F hF hro W=>?_
 simp only[Tryz.ntmps61,Tryz.results61,aI,Nat.reduceAdd,Nat.reduceSub]
 repeat' (first
  |simp -implicitDefEqProofs (maxSteps:=9999999) only[↓reduceIte,aA,aC,facts,kL,kM,zH,uJ,nR,lQ,Option.map_none, *]
  |with_reducible refine kN ?_)
 refine wX ?_ ?_
 all_goals repeat' (simp -implicitDefEqProofs (maxSteps:=9999999) only[↓reduceIte,aA,aC,facts,Nat.reduceAdd,lD,Gh,Qh, *])
 all_goals exact fun k b h=>h
theorem aK8 (l:List (List Dy)) (a n:Nat) (hl:l.length<=1000000) (ha:a+n<=l.length) (q:Nat) (hq:q<2000):Rd Tryz.prog gl 61 [.msl q (a) n 1] (hget [(q,.cells (l.flatMap fO))]) (.sl 1 (((l.drop a).take n).map eP) .none):=by
 rcases Nat.eq_zero_or_pos n with hn|hn
 ·subst hn
  exact(aGd _).nilMsl
 ·exact aQ2 l a n hl ha hn q hq
end Go.Proofs.Pv
